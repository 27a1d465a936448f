/- Chapter 14: VmStacks, walked. -/
import Derived.Test.YtngobbbinacomaaDoorSA14
import Derived.Test.YtngobbbinacomaaDoorVRB10
namespace Go.Proofs.YtngobbbinacomaaDoor
open Go.RowKit Go.Proofs.YtngobbbinacomaaDoor.c11 Go.Proofs.YtngobbbinacomaaDoor.c10 Go.Proofs.YtngobbbinacomaaDoor.c13
set_option linter.unusedVariables false
set_option linter.unusedSimpArgs false
attribute [local go_sem ↓] Go.wp_at_zero Go.wp_at_succ

/-- A literal row of bytes: it is the call's own; it reads. -/
theorem lit_own (w : World) (b : List Int) (base : Nat) (hb : base ≤ w.heap.size) (hl : b.length ≤ 1000) : (w.alloc (.cells (b.map (Value.int .u8)).toArray 5)).ownsRow base 5 1 (.slice (some ⟨w.heap.size, 0, none⟩) b.length b.length) b.length (u8s b) := by
  refine ⟨by simp [u8s], .inr ⟨w.heap.size, b.length, _, rfl, hb, heap_topE _ _ _ rfl, Nat.le_refl _, by unfold maxLen; omega, by simp, ?_⟩⟩
  simp [u8s]
  rw [List.take_of_length_le (by simp)]
theorem lit_cells (w : World) (b : List Int) (t : TypeId) : ∀ j u, (u8s b)[j]? = some u → (w.alloc (.cells (b.map (Value.int .u8)).toArray t)).cell? ((⟨w.heap.size, 0, none⟩ : Addr).add j) = some u := by
  intro j u hu
  rw [Addr.add_lit, World.cell?_alloc_new]
  simpa [u8s] using hu
/-- A case of VmStacks. -/
theorem i16_is (n : Int) : IntKind.i64.wrap (IntKind.i16.wrap n) = (n + 32768) % 65536 - 32768 := by rw [← w_i16 n, IntKind.wrap_i64]; unfold wrap64; omega
theorem u16_is (n : Int) : IntKind.i64.wrap (IntKind.u16.wrap n) = n % 65536 := by rw [← w_u16 n, IntKind.wrap_i64]; unfold wrap64; omega
set_option maxHeartbeats 8000000 in
set_option maxRecDepth 100000 in
theorem vmStacks_0 (a b c x y : Int) (hx : wrapK 5 a = x) (hy : wrapK 5 b = y) (hk : c % 6 = 0) (w : World) :
    Calls Tryd.prog 11 #[.int .i64 a, .int .i64 b, .int .i64 c] w fun e w' => e = .returned (.bool true) ∧ Below w.heap.size w w' := by
  have KN := Lib.hid (fun W => known14_any W)
  obtain ⟨i0, hi, hz0, hz1, hz2⟩ := info_parts byteInfo
  have t22 := byteRow
  have hxx : wrapK 5 x = x := by rw [← hx]; exact wrapK5 a
  have hyy : wrapK 5 y = y := by rw [← hy]; exact wrapK5 b
  have WX := fun W => rwrap_any 5 a W
  have WY := fun W => rwrap_any 5 b W
  have WI := fun W => within14_any c 6 (by decide) (by decide) W
  rw [hx] at WX
  rw [hy] at WY
  rw [hk] at WI
  have HWX := Lib.hid WX
  have HWY := Lib.hid WY
  have HWI := Lib.hid WI
  have RN := Lib.hid (fun (u : World) (g cc : Nat) (h : CodeLies u g (scC 0) cc) => show Calls Tryd.prog 29 #[.slice (some ⟨g, 0, none⟩) 7 cc, .agg #[.int .i64 x, .int .i64 y, .int .i64 0, .int .i64 0], .int .i64 0] u fun e w' => Below u.heap.size u w' ∧ ∃ (v : Value) (n : Nat), e = .returned (.tuple #[v, .agg #[.int .i64 5, .int .i64 6, .int .i64 y, .int .i64 8], .int .i64 n, .int .i64 0, .bool true]) from by
    obtain ⟨R, r0, r1, r2, r3, hR⟩ := scC_run none none none 0 0 0 0 0 0 0 x y 0 (by omega) hxx hyy
    have r2 : R.o2 = y := by rw [r2]; simp [scW]
    have h := run14_any g (scC 0) cc x y 0 0 0 u h (scC_fine 0 (by omega)) (fun SA SC Ca Cc f La Lc => hR SA Ca La SC Cc cc f g Lc)
    rw [r0, r1, r2, r3] at h
    exact h.mono fun e w' ⟨h1, v, h2, _⟩ => ⟨h1, v, _, h2⟩)
  have E4 := eq4_same 5 6 y 8
  clear WX WY WI hx hy hk hxx hyy
  go_enter Tryd.func11, Tryd.ntmps11
  go_upto_region 6 with (first | (go_at_call 17; refine (KN.out _).mono ?_; rintro e w1 ⟨rfl, hb1⟩; have HB1 := Lib.hid hb1; clear hb1) | (go_at_call 21; refine (HWI.out _).mono ?_; rintro e wx ⟨rfl, rfl⟩) | (go_at_call 26; first | (with_reducible refine (HWX.out _).mono ?_; rintro e wx ⟨rfl, rfl⟩) | (with_reducible refine (HWY.out _).mono ?_; rintro e wx ⟨rfl, rfl⟩)))
  obtain ⟨u0, hu0⟩ : ∃ x : World, x = w1.alloc (.cells #[.int .u8 24, .int .u8 0, .int .u8 24, .int .u8 1] 5) := ⟨_, rfl⟩
  obtain ⟨v0, hv0⟩ : ∃ x : Value, x = .slice (some ⟨w1.heap.size, 0, none⟩) 4 4 := ⟨_, rfl⟩
  have HO0 := Lib.hid (show u0.ownsRow w1.heap.size 5 1 v0 4 (u8s [24, 0, 24, 1]) from by rw [hu0, hv0]; exact lit_own w1 [24, 0, 24, 1] w1.heap.size (Nat.le_refl _) (by decide))
  have HBZ := Lib.hid (show Below w1.heap.size w1 u0 from by rw [hu0]; exact (Below.refl _ w1).alloc (Nat.le_refl _) _)
  rw [← hu0, ← hv0]
  clear hu0 hv0
  go_wp2_with (first | (go_at_call 17; refine (KN.out _).mono ?_; rintro e w1 ⟨rfl, hb1⟩; have HB1 := Lib.hid hb1; clear hb1) | (go_at_call 21; refine (HWI.out _).mono ?_; rintro e wx ⟨rfl, rfl⟩) | (go_at_call 26; first | (with_reducible refine (HWX.out _).mono ?_; rintro e wx ⟨rfl, rfl⟩) | (with_reducible refine (HWY.out _).mono ?_; rintro e wx ⟨rfl, rfl⟩)) | (at_builtin; refine wpList_append_own _ rfl _ _ 44 rfl w1.heap.size 5 i0 _ 1 1 t22 hi hz0 hz1 hz2 rfl (by decide) _ 4 (u8s [24, 0, 24, 1]) rfl (HO0.out.alloc _) ⟨_, 0, none⟩ 3 3 (u8s [25, 2, 0]) rfl rfl (lit_cells _ [25, 2, 0] _) (u8s_one _) (by unfold maxLen; omega) (by omega) (by have hq := HBZ.out.size; first | omega | (simp; done) | (simp; omega)) ?_; intro v2 u2 hown hgrow hnil; have HO2 := Lib.hid (show u2.ownsRow w1.heap.size 5 1 v2 7 (u8s [24, 0, 24, 1, 25, 2, 0]) from hown); have HB2 := Lib.hid (grown_below (B := w1.heap.size) (HBZ.out.alloc (by have hq := HBZ.out.size; first | omega | (simp; done) | (simp; omega)) _) (HO0.out.alloc _) hgrow (Nat.le_refl _) (by have hq := HBZ.out.size; first | omega | (simp; done) | (simp; omega))); clear hown hgrow hnil))
  obtain ⟨g2, c2, rfl, hcl⟩ := CodeLies.of_own (b := scC 0) HO2.out (by decide)
  refine (RN.out _ _ _ hcl).mono ?_
  rintro e w3 ⟨hb3, v3, n3, rfl⟩
  have HB3 := Lib.hid (below3 HB1.out HB1.out.size (below3 HB2.out HB2.out.size hb3))
  clear hb3 hcl
  go_wp2
  go_ret
  exact ⟨rfl, HB3.out.alloc HB3.out.size _⟩

set_option maxHeartbeats 8000000 in
set_option maxRecDepth 100000 in
theorem vmStacks_1 (a b c x y : Int) (hx : wrapK 5 a = x) (hy : wrapK 5 b = y) (hk : c % 6 = 1) (w : World) :
    Calls Tryd.prog 11 #[.int .i64 a, .int .i64 b, .int .i64 c] w fun e w' => e = .returned (.bool true) ∧ Below w.heap.size w w' := by
  have KN := Lib.hid (fun W => known14_any W)
  obtain ⟨i0, hi, hz0, hz1, hz2⟩ := info_parts byteInfo
  have t22 := byteRow
  have hxx : wrapK 5 x = x := by rw [← hx]; exact wrapK5 a
  have hyy : wrapK 5 y = y := by rw [← hy]; exact wrapK5 b
  have WX := fun W => rwrap_any 5 a W
  have WY := fun W => rwrap_any 5 b W
  have WI := fun W => within14_any c 6 (by decide) (by decide) W
  rw [hx] at WX
  rw [hy] at WY
  rw [hk] at WI
  have HWX := Lib.hid WX
  have HWY := Lib.hid WY
  have HWI := Lib.hid WI
  have RN := Lib.hid (fun (u : World) (g cc : Nat) (h : CodeLies u g (scC 1) cc) => show Calls Tryd.prog 29 #[.slice (some ⟨g, 0, none⟩) 8 cc, .agg #[.int .i64 x, .int .i64 y, .int .i64 0, .int .i64 0], .int .i64 0] u fun e w' => Below u.heap.size u w' ∧ ∃ (v : Value) (n : Nat), e = .returned (.tuple #[v, .agg #[.int .i64 5, .int .i64 6, .int .i64 x, .int .i64 8], .int .i64 n, .int .i64 0, .bool true]) from by
    obtain ⟨R, r0, r1, r2, r3, hR⟩ := scC_run none none none 0 0 0 0 0 0 1 x y 0 (by omega) hxx hyy
    have r2 : R.o2 = x := by rw [r2]; simp [scW]
    have h := run14_any g (scC 1) cc x y 0 0 0 u h (scC_fine 1 (by omega)) (fun SA SC Ca Cc f La Lc => hR SA Ca La SC Cc cc f g Lc)
    rw [r0, r1, r2, r3] at h
    exact h.mono fun e w' ⟨h1, v, h2, _⟩ => ⟨h1, v, _, h2⟩)
  have E4 := eq4_same 5 6 x 8
  clear WX WY WI hx hy hk hxx hyy
  go_enter Tryd.func11, Tryd.ntmps11
  go_upto_region 6 with (first | (go_at_call 17; refine (KN.out _).mono ?_; rintro e w1 ⟨rfl, hb1⟩; have HB1 := Lib.hid hb1; clear hb1) | (go_at_call 21; refine (HWI.out _).mono ?_; rintro e wx ⟨rfl, rfl⟩) | (go_at_call 26; first | (with_reducible refine (HWX.out _).mono ?_; rintro e wx ⟨rfl, rfl⟩) | (with_reducible refine (HWY.out _).mono ?_; rintro e wx ⟨rfl, rfl⟩)))
  obtain ⟨u0, hu0⟩ : ∃ x : World, x = w1.alloc (.cells #[.int .u8 24, .int .u8 0, .int .u8 24, .int .u8 1] 5) := ⟨_, rfl⟩
  obtain ⟨v0, hv0⟩ : ∃ x : Value, x = .slice (some ⟨w1.heap.size, 0, none⟩) 4 4 := ⟨_, rfl⟩
  have HO0 := Lib.hid (show u0.ownsRow w1.heap.size 5 1 v0 4 (u8s [24, 0, 24, 1]) from by rw [hu0, hv0]; exact lit_own w1 [24, 0, 24, 1] w1.heap.size (Nat.le_refl _) (by decide))
  have HBZ := Lib.hid (show Below w1.heap.size w1 u0 from by rw [hu0]; exact (Below.refl _ w1).alloc (Nat.le_refl _) _)
  rw [← hu0, ← hv0]
  clear hu0 hv0
  go_wp2_with (first | (go_at_call 17; refine (KN.out _).mono ?_; rintro e w1 ⟨rfl, hb1⟩; have HB1 := Lib.hid hb1; clear hb1) | (go_at_call 21; refine (HWI.out _).mono ?_; rintro e wx ⟨rfl, rfl⟩) | (go_at_call 26; first | (with_reducible refine (HWX.out _).mono ?_; rintro e wx ⟨rfl, rfl⟩) | (with_reducible refine (HWY.out _).mono ?_; rintro e wx ⟨rfl, rfl⟩)) | (at_builtin; refine wpList_append_own _ rfl _ _ 44 rfl w1.heap.size 5 i0 _ 1 1 t22 hi hz0 hz1 hz2 rfl (by decide) _ 5 (u8s [24, 0, 24, 1, 22]) rfl (HO1.out.alloc _) ⟨_, 0, none⟩ 3 3 (u8s [25, 2, 0]) rfl rfl (lit_cells _ [25, 2, 0] _) (u8s_one _) (by unfold maxLen; omega) (by omega) (by have hq := HBA.out.size; first | omega | (simp; done) | (simp; omega)) ?_; intro v2 u2 hown hgrow hnil; have HO2 := Lib.hid (show u2.ownsRow w1.heap.size 5 1 v2 8 (u8s [24, 0, 24, 1, 22, 25, 2, 0]) from hown); have HB2 := Lib.hid (grown_below (B := w1.heap.size) (HBA.out.alloc (by have hq := HBA.out.size; first | omega | (simp; done) | (simp; omega)) _) (HO1.out.alloc _) hgrow (Nat.le_refl _) (by have hq := HBA.out.size; first | omega | (simp; done) | (simp; omega))); clear hown hgrow hnil) | (at_builtin; refine wpList_append_own _ rfl _ _ 44 rfl w1.heap.size 5 i0 _ 1 1 t22 hi hz0 hz1 hz2 rfl (by decide) _ 4 (u8s [24, 0, 24, 1]) rfl (HO0.out.alloc _) ⟨_, 0, none⟩ 1 1 (u8s [22]) rfl rfl (lit_cells _ [22] _) (u8s_one _) (by unfold maxLen; omega) (by omega) (by have hq := HBZ.out.size; first | omega | (simp; done) | (simp; omega)) ?_; intro v1 u1 hown hgrow hnil; have HO1 := Lib.hid (show u1.ownsRow w1.heap.size 5 1 v1 5 (u8s [24, 0, 24, 1, 22]) from hown); have HBA := Lib.hid (grown_below (B := w1.heap.size) (HBZ.out.alloc (by have hq := HBZ.out.size; first | omega | (simp; done) | (simp; omega)) _) (HO0.out.alloc _) hgrow (Nat.le_refl _) (by have hq := HBZ.out.size; first | omega | (simp; done) | (simp; omega))); clear hown hgrow hnil))
  obtain ⟨g2, c2, rfl, hcl⟩ := CodeLies.of_own (b := scC 1) HO2.out (by decide)
  refine (RN.out _ _ _ hcl).mono ?_
  rintro e w3 ⟨hb3, v3, n3, rfl⟩
  have HB3 := Lib.hid (below3 HB1.out HB1.out.size (below3 HB2.out HB2.out.size hb3))
  clear hb3 hcl
  go_wp2
  go_ret
  exact ⟨rfl, HB3.out.alloc HB3.out.size _⟩

set_option maxHeartbeats 8000000 in
set_option maxRecDepth 100000 in
theorem vmStacks_2 (a b c x y : Int) (hx : wrapK 5 a = x) (hy : wrapK 5 b = y) (hk : c % 6 = 2) (w : World) :
    Calls Tryd.prog 11 #[.int .i64 a, .int .i64 b, .int .i64 c] w fun e w' => e = .returned (.bool true) ∧ Below w.heap.size w w' := by
  have KN := Lib.hid (fun W => known14_any W)
  obtain ⟨i0, hi, hz0, hz1, hz2⟩ := info_parts byteInfo
  have t22 := byteRow
  have hxx : wrapK 5 x = x := by rw [← hx]; exact wrapK5 a
  have hyy : wrapK 5 y = y := by rw [← hy]; exact wrapK5 b
  have WX := fun W => rwrap_any 5 a W
  have WY := fun W => rwrap_any 5 b W
  have WI := fun W => within14_any c 6 (by decide) (by decide) W
  rw [hx] at WX
  rw [hy] at WY
  rw [hk] at WI
  have HWX := Lib.hid WX
  have HWY := Lib.hid WY
  have HWI := Lib.hid WI
  have RN := Lib.hid (fun (u : World) (g cc : Nat) (h : CodeLies u g (scC 2) cc) => show Calls Tryd.prog 29 #[.slice (some ⟨g, 0, none⟩) 9 cc, .agg #[.int .i64 x, .int .i64 y, .int .i64 0, .int .i64 0], .int .i64 0] u fun e w' => Below u.heap.size u w' ∧ ∃ (v : Value) (n : Nat), e = .returned (.tuple #[v, .agg #[.int .i64 5, .int .i64 6, .int .i64 y, .int .i64 8], .int .i64 n, .int .i64 0, .bool true]) from by
    obtain ⟨R, r0, r1, r2, r3, hR⟩ := scC_run none none none 0 0 0 0 0 0 2 x y 0 (by omega) hxx hyy
    have r2 : R.o2 = y := by rw [r2]; simp [scW]
    have h := run14_any g (scC 2) cc x y 0 0 0 u h (scC_fine 2 (by omega)) (fun SA SC Ca Cc f La Lc => hR SA Ca La SC Cc cc f g Lc)
    rw [r0, r1, r2, r3] at h
    exact h.mono fun e w' ⟨h1, v, h2, _⟩ => ⟨h1, v, _, h2⟩)
  have E4 := eq4_same 5 6 y 8
  clear WX WY WI hx hy hk hxx hyy
  go_enter Tryd.func11, Tryd.ntmps11
  go_upto_region 6 with (first | (go_at_call 17; refine (KN.out _).mono ?_; rintro e w1 ⟨rfl, hb1⟩; have HB1 := Lib.hid hb1; clear hb1) | (go_at_call 21; refine (HWI.out _).mono ?_; rintro e wx ⟨rfl, rfl⟩) | (go_at_call 26; first | (with_reducible refine (HWX.out _).mono ?_; rintro e wx ⟨rfl, rfl⟩) | (with_reducible refine (HWY.out _).mono ?_; rintro e wx ⟨rfl, rfl⟩)))
  obtain ⟨u0, hu0⟩ : ∃ x : World, x = w1.alloc (.cells #[.int .u8 24, .int .u8 0, .int .u8 24, .int .u8 1] 5) := ⟨_, rfl⟩
  obtain ⟨v0, hv0⟩ : ∃ x : Value, x = .slice (some ⟨w1.heap.size, 0, none⟩) 4 4 := ⟨_, rfl⟩
  have HO0 := Lib.hid (show u0.ownsRow w1.heap.size 5 1 v0 4 (u8s [24, 0, 24, 1]) from by rw [hu0, hv0]; exact lit_own w1 [24, 0, 24, 1] w1.heap.size (Nat.le_refl _) (by decide))
  have HBZ := Lib.hid (show Below w1.heap.size w1 u0 from by rw [hu0]; exact (Below.refl _ w1).alloc (Nat.le_refl _) _)
  rw [← hu0, ← hv0]
  clear hu0 hv0
  go_wp2_with (first | (go_at_call 17; refine (KN.out _).mono ?_; rintro e w1 ⟨rfl, hb1⟩; have HB1 := Lib.hid hb1; clear hb1) | (go_at_call 21; refine (HWI.out _).mono ?_; rintro e wx ⟨rfl, rfl⟩) | (go_at_call 26; first | (with_reducible refine (HWX.out _).mono ?_; rintro e wx ⟨rfl, rfl⟩) | (with_reducible refine (HWY.out _).mono ?_; rintro e wx ⟨rfl, rfl⟩)) | (at_builtin; refine wpList_append_own _ rfl _ _ 44 rfl w1.heap.size 5 i0 _ 1 1 t22 hi hz0 hz1 hz2 rfl (by decide) _ 6 (u8s [24, 0, 24, 1, 21, 22]) rfl (HO1.out.alloc _) ⟨_, 0, none⟩ 3 3 (u8s [25, 2, 0]) rfl rfl (lit_cells _ [25, 2, 0] _) (u8s_one _) (by unfold maxLen; omega) (by omega) (by have hq := HBA.out.size; first | omega | (simp; done) | (simp; omega)) ?_; intro v2 u2 hown hgrow hnil; have HO2 := Lib.hid (show u2.ownsRow w1.heap.size 5 1 v2 9 (u8s [24, 0, 24, 1, 21, 22, 25, 2, 0]) from hown); have HB2 := Lib.hid (grown_below (B := w1.heap.size) (HBA.out.alloc (by have hq := HBA.out.size; first | omega | (simp; done) | (simp; omega)) _) (HO1.out.alloc _) hgrow (Nat.le_refl _) (by have hq := HBA.out.size; first | omega | (simp; done) | (simp; omega))); clear hown hgrow hnil) | (at_builtin; refine wpList_append_own _ rfl _ _ 44 rfl w1.heap.size 5 i0 _ 1 1 t22 hi hz0 hz1 hz2 rfl (by decide) _ 4 (u8s [24, 0, 24, 1]) rfl (HO0.out.alloc _) ⟨_, 0, none⟩ 2 2 (u8s [21, 22]) rfl rfl (lit_cells _ [21, 22] _) (u8s_one _) (by unfold maxLen; omega) (by omega) (by have hq := HBZ.out.size; first | omega | (simp; done) | (simp; omega)) ?_; intro v1 u1 hown hgrow hnil; have HO1 := Lib.hid (show u1.ownsRow w1.heap.size 5 1 v1 6 (u8s [24, 0, 24, 1, 21, 22]) from hown); have HBA := Lib.hid (grown_below (B := w1.heap.size) (HBZ.out.alloc (by have hq := HBZ.out.size; first | omega | (simp; done) | (simp; omega)) _) (HO0.out.alloc _) hgrow (Nat.le_refl _) (by have hq := HBZ.out.size; first | omega | (simp; done) | (simp; omega))); clear hown hgrow hnil))
  obtain ⟨g2, c2, rfl, hcl⟩ := CodeLies.of_own (b := scC 2) HO2.out (by decide)
  refine (RN.out _ _ _ hcl).mono ?_
  rintro e w3 ⟨hb3, v3, n3, rfl⟩
  have HB3 := Lib.hid (below3 HB1.out HB1.out.size (below3 HB2.out HB2.out.size hb3))
  clear hb3 hcl
  go_wp2
  go_ret
  exact ⟨rfl, HB3.out.alloc HB3.out.size _⟩

set_option maxHeartbeats 8000000 in
set_option maxRecDepth 100000 in
theorem vmStacks_3 (a b c x y : Int) (hx : wrapK 5 a = x) (hy : wrapK 5 b = y) (hk : c % 6 = 3) (w : World) :
    Calls Tryd.prog 11 #[.int .i64 a, .int .i64 b, .int .i64 c] w fun e w' => e = .returned (.bool true) ∧ Below w.heap.size w w' := by
  have KN := Lib.hid (fun W => known14_any W)
  obtain ⟨i0, hi, hz0, hz1, hz2⟩ := info_parts byteInfo
  have t22 := byteRow
  have hxx : wrapK 5 x = x := by rw [← hx]; exact wrapK5 a
  have hyy : wrapK 5 y = y := by rw [← hy]; exact wrapK5 b
  have WX := fun W => rwrap_any 5 a W
  have WY := fun W => rwrap_any 5 b W
  have WI := fun W => within14_any c 6 (by decide) (by decide) W
  rw [hx] at WX
  rw [hy] at WY
  rw [hk] at WI
  have HWX := Lib.hid WX
  have HWY := Lib.hid WY
  have HWI := Lib.hid WI
  have RN := Lib.hid (fun (u : World) (g cc : Nat) (h : CodeLies u g (scC 3) cc) => show Calls Tryd.prog 29 #[.slice (some ⟨g, 0, none⟩) 11 cc, .agg #[.int .i64 x, .int .i64 y, .int .i64 0, .int .i64 0], .int .i64 0] u fun e w' => Below u.heap.size u w' ∧ ∃ (v : Value) (n : Nat), e = .returned (.tuple #[v, .agg #[.int .i64 5, .int .i64 6, .int .i64 ((y + 32768) % 65536 - 32768), .int .i64 8], .int .i64 n, .int .i64 0, .bool true]) from by
    obtain ⟨R, r0, r1, r2, r3, hR⟩ := scC_run none none none 0 0 0 0 0 0 3 x y 0 (by omega) hxx hyy
    have r2 : R.o2 = ((y + 32768) % 65536 - 32768) := by rw [r2]; simp [scW]
    have h := run14_any g (scC 3) cc x y 0 0 0 u h (scC_fine 3 (by omega)) (fun SA SC Ca Cc f La Lc => hR SA Ca La SC Cc cc f g Lc)
    rw [r0, r1, r2, r3] at h
    exact h.mono fun e w' ⟨h1, v, h2, _⟩ => ⟨h1, v, _, h2⟩)
  have E4 := eq4_same 5 6 ((y + 32768) % 65536 - 32768) 8
  have e16 := i16_is y
  clear WX WY WI hx hy hk hxx hyy
  go_enter Tryd.func11, Tryd.ntmps11
  go_upto_region 6 with (first | (go_at_call 17; refine (KN.out _).mono ?_; rintro e w1 ⟨rfl, hb1⟩; have HB1 := Lib.hid hb1; clear hb1) | (go_at_call 21; refine (HWI.out _).mono ?_; rintro e wx ⟨rfl, rfl⟩) | (go_at_call 26; first | (with_reducible refine (HWX.out _).mono ?_; rintro e wx ⟨rfl, rfl⟩) | (with_reducible refine (HWY.out _).mono ?_; rintro e wx ⟨rfl, rfl⟩)))
  obtain ⟨u0, hu0⟩ : ∃ x : World, x = w1.alloc (.cells #[.int .u8 24, .int .u8 0, .int .u8 24, .int .u8 1] 5) := ⟨_, rfl⟩
  obtain ⟨v0, hv0⟩ : ∃ x : Value, x = .slice (some ⟨w1.heap.size, 0, none⟩) 4 4 := ⟨_, rfl⟩
  have HO0 := Lib.hid (show u0.ownsRow w1.heap.size 5 1 v0 4 (u8s [24, 0, 24, 1]) from by rw [hu0, hv0]; exact lit_own w1 [24, 0, 24, 1] w1.heap.size (Nat.le_refl _) (by decide))
  have HBZ := Lib.hid (show Below w1.heap.size w1 u0 from by rw [hu0]; exact (Below.refl _ w1).alloc (Nat.le_refl _) _)
  rw [← hu0, ← hv0]
  clear hu0 hv0
  go_wp2_with (first | (go_at_call 17; refine (KN.out _).mono ?_; rintro e w1 ⟨rfl, hb1⟩; have HB1 := Lib.hid hb1; clear hb1) | (go_at_call 21; refine (HWI.out _).mono ?_; rintro e wx ⟨rfl, rfl⟩) | (go_at_call 26; first | (with_reducible refine (HWX.out _).mono ?_; rintro e wx ⟨rfl, rfl⟩) | (with_reducible refine (HWY.out _).mono ?_; rintro e wx ⟨rfl, rfl⟩)) | (at_builtin; refine wpList_append_own _ rfl _ _ 44 rfl w1.heap.size 5 i0 _ 1 1 t22 hi hz0 hz1 hz2 rfl (by decide) _ 8 (u8s [24, 0, 24, 1, 23, 4, 23, 5]) rfl (HO1.out.alloc _) ⟨_, 0, none⟩ 3 3 (u8s [25, 2, 0]) rfl rfl (lit_cells _ [25, 2, 0] _) (u8s_one _) (by unfold maxLen; omega) (by omega) (by have hq := HBA.out.size; first | omega | (simp; done) | (simp; omega)) ?_; intro v2 u2 hown hgrow hnil; have HO2 := Lib.hid (show u2.ownsRow w1.heap.size 5 1 v2 11 (u8s [24, 0, 24, 1, 23, 4, 23, 5, 25, 2, 0]) from hown); have HB2 := Lib.hid (grown_below (B := w1.heap.size) (HBA.out.alloc (by have hq := HBA.out.size; first | omega | (simp; done) | (simp; omega)) _) (HO1.out.alloc _) hgrow (Nat.le_refl _) (by have hq := HBA.out.size; first | omega | (simp; done) | (simp; omega))); clear hown hgrow hnil) | (at_builtin; refine wpList_append_own _ rfl _ _ 44 rfl w1.heap.size 5 i0 _ 1 1 t22 hi hz0 hz1 hz2 rfl (by decide) _ 4 (u8s [24, 0, 24, 1]) rfl (HO0.out.alloc _) ⟨_, 0, none⟩ 4 4 (u8s [23, 4, 23, 5]) rfl rfl (lit_cells _ [23, 4, 23, 5] _) (u8s_one _) (by unfold maxLen; omega) (by omega) (by have hq := HBZ.out.size; first | omega | (simp; done) | (simp; omega)) ?_; intro v1 u1 hown hgrow hnil; have HO1 := Lib.hid (show u1.ownsRow w1.heap.size 5 1 v1 8 (u8s [24, 0, 24, 1, 23, 4, 23, 5]) from hown); have HBA := Lib.hid (grown_below (B := w1.heap.size) (HBZ.out.alloc (by have hq := HBZ.out.size; first | omega | (simp; done) | (simp; omega)) _) (HO0.out.alloc _) hgrow (Nat.le_refl _) (by have hq := HBZ.out.size; first | omega | (simp; done) | (simp; omega))); clear hown hgrow hnil))
  obtain ⟨g2, c2, rfl, hcl⟩ := CodeLies.of_own (b := scC 3) HO2.out (by decide)
  refine (RN.out _ _ _ hcl).mono ?_
  rintro e w3 ⟨hb3, v3, n3, rfl⟩
  have HB3 := Lib.hid (below3 HB1.out HB1.out.size (below3 HB2.out HB2.out.size hb3))
  clear hb3 hcl
  go_wp2
  go_ret
  exact ⟨rfl, HB3.out.alloc HB3.out.size _⟩

set_option maxHeartbeats 8000000 in
set_option maxRecDepth 100000 in
theorem vmStacks_4 (a b c x y : Int) (hx : wrapK 5 a = x) (hy : wrapK 5 b = y) (hk : c % 6 = 4) (w : World) :
    Calls Tryd.prog 11 #[.int .i64 a, .int .i64 b, .int .i64 c] w fun e w' => e = .returned (.bool true) ∧ Below w.heap.size w w' := by
  have KN := Lib.hid (fun W => known14_any W)
  obtain ⟨i0, hi, hz0, hz1, hz2⟩ := info_parts byteInfo
  have t22 := byteRow
  have hxx : wrapK 5 x = x := by rw [← hx]; exact wrapK5 a
  have hyy : wrapK 5 y = y := by rw [← hy]; exact wrapK5 b
  have WX := fun W => rwrap_any 5 a W
  have WY := fun W => rwrap_any 5 b W
  have WI := fun W => within14_any c 6 (by decide) (by decide) W
  rw [hx] at WX
  rw [hy] at WY
  rw [hk] at WI
  have HWX := Lib.hid WX
  have HWY := Lib.hid WY
  have HWI := Lib.hid WI
  have RN := Lib.hid (fun (u : World) (g cc : Nat) (h : CodeLies u g (scC 4) cc) => show Calls Tryd.prog 29 #[.slice (some ⟨g, 0, none⟩) 12 cc, .agg #[.int .i64 x, .int .i64 y, .int .i64 0, .int .i64 0], .int .i64 0] u fun e w' => Below u.heap.size u w' ∧ ∃ (v : Value) (n : Nat), e = .returned (.tuple #[v, .agg #[.int .i64 5, .int .i64 6, .int .i64 (65535 - y % 65536), .int .i64 8], .int .i64 n, .int .i64 0, .bool true]) from by
    obtain ⟨R, r0, r1, r2, r3, hR⟩ := scC_run none none none 0 0 0 0 0 0 4 x y 0 (by omega) hxx hyy
    have r2 : R.o2 = (65535 - y % 65536) := by rw [r2]; simp [scW]
    have h := run14_any g (scC 4) cc x y 0 0 0 u h (scC_fine 4 (by omega)) (fun SA SC Ca Cc f La Lc => hR SA Ca La SC Cc cc f g Lc)
    rw [r0, r1, r2, r3] at h
    exact h.mono fun e w' ⟨h1, v, h2, _⟩ => ⟨h1, v, _, h2⟩)
  have E4 := eq4_same 5 6 (65535 - y % 65536) 8
  have e16 := u16_is y
  have hq := Int.emod_nonneg y (show (65536 : Int) ≠ 0 by decide)
  have hq2 := Int.emod_lt_of_pos y (show (0 : Int) < 65536 by decide)
  clear WX WY WI hx hy hk hxx hyy
  go_enter Tryd.func11, Tryd.ntmps11
  go_upto_region 6 with (first | (go_at_call 17; refine (KN.out _).mono ?_; rintro e w1 ⟨rfl, hb1⟩; have HB1 := Lib.hid hb1; clear hb1) | (go_at_call 21; refine (HWI.out _).mono ?_; rintro e wx ⟨rfl, rfl⟩) | (go_at_call 26; first | (with_reducible refine (HWX.out _).mono ?_; rintro e wx ⟨rfl, rfl⟩) | (with_reducible refine (HWY.out _).mono ?_; rintro e wx ⟨rfl, rfl⟩)))
  obtain ⟨u0, hu0⟩ : ∃ x : World, x = w1.alloc (.cells #[.int .u8 24, .int .u8 0, .int .u8 24, .int .u8 1] 5) := ⟨_, rfl⟩
  obtain ⟨v0, hv0⟩ : ∃ x : Value, x = .slice (some ⟨w1.heap.size, 0, none⟩) 4 4 := ⟨_, rfl⟩
  have HO0 := Lib.hid (show u0.ownsRow w1.heap.size 5 1 v0 4 (u8s [24, 0, 24, 1]) from by rw [hu0, hv0]; exact lit_own w1 [24, 0, 24, 1] w1.heap.size (Nat.le_refl _) (by decide))
  have HBZ := Lib.hid (show Below w1.heap.size w1 u0 from by rw [hu0]; exact (Below.refl _ w1).alloc (Nat.le_refl _) _)
  rw [← hu0, ← hv0]
  clear hu0 hv0
  go_wp2_with (first | (go_at_call 17; refine (KN.out _).mono ?_; rintro e w1 ⟨rfl, hb1⟩; have HB1 := Lib.hid hb1; clear hb1) | (go_at_call 21; refine (HWI.out _).mono ?_; rintro e wx ⟨rfl, rfl⟩) | (go_at_call 26; first | (with_reducible refine (HWX.out _).mono ?_; rintro e wx ⟨rfl, rfl⟩) | (with_reducible refine (HWY.out _).mono ?_; rintro e wx ⟨rfl, rfl⟩)) | (at_builtin; refine wpList_append_own _ rfl _ _ 44 rfl w1.heap.size 5 i0 _ 1 1 t22 hi hz0 hz1 hz2 rfl (by decide) _ 9 (u8s [24, 0, 24, 1, 23, 3, 15, 23, 5]) rfl (HO1.out.alloc _) ⟨_, 0, none⟩ 3 3 (u8s [25, 2, 0]) rfl rfl (lit_cells _ [25, 2, 0] _) (u8s_one _) (by unfold maxLen; omega) (by omega) (by have hq := HBA.out.size; first | omega | (simp; done) | (simp; omega)) ?_; intro v2 u2 hown hgrow hnil; have HO2 := Lib.hid (show u2.ownsRow w1.heap.size 5 1 v2 12 (u8s [24, 0, 24, 1, 23, 3, 15, 23, 5, 25, 2, 0]) from hown); have HB2 := Lib.hid (grown_below (B := w1.heap.size) (HBA.out.alloc (by have hq := HBA.out.size; first | omega | (simp; done) | (simp; omega)) _) (HO1.out.alloc _) hgrow (Nat.le_refl _) (by have hq := HBA.out.size; first | omega | (simp; done) | (simp; omega))); clear hown hgrow hnil) | (at_builtin; refine wpList_append_own _ rfl _ _ 44 rfl w1.heap.size 5 i0 _ 1 1 t22 hi hz0 hz1 hz2 rfl (by decide) _ 4 (u8s [24, 0, 24, 1]) rfl (HO0.out.alloc _) ⟨_, 0, none⟩ 5 5 (u8s [23, 3, 15, 23, 5]) rfl rfl (lit_cells _ [23, 3, 15, 23, 5] _) (u8s_one _) (by unfold maxLen; omega) (by omega) (by have hq := HBZ.out.size; first | omega | (simp; done) | (simp; omega)) ?_; intro v1 u1 hown hgrow hnil; have HO1 := Lib.hid (show u1.ownsRow w1.heap.size 5 1 v1 9 (u8s [24, 0, 24, 1, 23, 3, 15, 23, 5]) from hown); have HBA := Lib.hid (grown_below (B := w1.heap.size) (HBZ.out.alloc (by have hq := HBZ.out.size; first | omega | (simp; done) | (simp; omega)) _) (HO0.out.alloc _) hgrow (Nat.le_refl _) (by have hq := HBZ.out.size; first | omega | (simp; done) | (simp; omega))); clear hown hgrow hnil))
  obtain ⟨g2, c2, rfl, hcl⟩ := CodeLies.of_own (b := scC 4) HO2.out (by decide)
  refine (RN.out _ _ _ hcl).mono ?_
  rintro e w3 ⟨hb3, v3, n3, rfl⟩
  have HB3 := Lib.hid (below3 HB1.out HB1.out.size (below3 HB2.out HB2.out.size hb3))
  clear hb3 hcl
  go_wp2
  go_ret
  exact ⟨rfl, HB3.out.alloc HB3.out.size _⟩

set_option maxHeartbeats 8000000 in
set_option maxRecDepth 100000 in
theorem vmStacks_5t (a b c x y : Int) (hx : wrapK 5 a = x) (hy : wrapK 5 b = y) (hk : c % 6 = 5) (hxy : x = y) (w : World) :
    Calls Tryd.prog 11 #[.int .i64 a, .int .i64 b, .int .i64 c] w fun e w' => e = .returned (.bool true) ∧ Below w.heap.size w w' := by
  have KN := Lib.hid (fun W => known14_any W)
  obtain ⟨i0, hi, hz0, hz1, hz2⟩ := info_parts byteInfo
  have t22 := byteRow
  have hxx : wrapK 5 x = x := by rw [← hx]; exact wrapK5 a
  have hyy : wrapK 5 y = y := by rw [← hy]; exact wrapK5 b
  have WX := fun W => rwrap_any 5 a W
  have WY := fun W => rwrap_any 5 b W
  have WI := fun W => within14_any c 6 (by decide) (by decide) W
  rw [hx] at WX
  rw [hy] at WY
  rw [hk] at WI
  have HWX := Lib.hid WX
  have HWY := Lib.hid WY
  have HWI := Lib.hid WI
  have RN := Lib.hid (fun (u : World) (g cc : Nat) (h : CodeLies u g (scC 5) cc) => show Calls Tryd.prog 29 #[.slice (some ⟨g, 0, none⟩) 10 cc, .agg #[.int .i64 x, .int .i64 y, .int .i64 0, .int .i64 0], .int .i64 0] u fun e w' => Below u.heap.size u w' ∧ ∃ (v : Value) (n : Nat), e = .returned (.tuple #[v, .agg #[.int .i64 5, .int .i64 6, .int .i64 1, .int .i64 8], .int .i64 n, .int .i64 0, .bool true]) from by
    obtain ⟨R, r0, r1, r2, r3, hR⟩ := scC_run none none none 0 0 0 0 0 0 5 x y 0 (by omega) hxx hyy
    have r2 : R.o2 = 1 := by rw [r2]; simp [scW, hxy]
    have h := run14_any g (scC 5) cc x y 0 0 0 u h (scC_fine 5 (by omega)) (fun SA SC Ca Cc f La Lc => hR SA Ca La SC Cc cc f g Lc)
    rw [r0, r1, r2, r3] at h
    exact h.mono fun e w' ⟨h1, v, h2, _⟩ => ⟨h1, v, _, h2⟩)
  have E4 := eq4_same 5 6 1 8
  clear WX WY WI hx hy hk hxx hyy
  subst hxy
  go_enter Tryd.func11, Tryd.ntmps11
  go_upto_region 6 with (first | (go_at_call 17; refine (KN.out _).mono ?_; rintro e w1 ⟨rfl, hb1⟩; have HB1 := Lib.hid hb1; clear hb1) | (go_at_call 21; refine (HWI.out _).mono ?_; rintro e wx ⟨rfl, rfl⟩) | (go_at_call 26; first | (with_reducible refine (HWX.out _).mono ?_; rintro e wx ⟨rfl, rfl⟩) | (with_reducible refine (HWY.out _).mono ?_; rintro e wx ⟨rfl, rfl⟩)))
  obtain ⟨u0, hu0⟩ : ∃ x : World, x = w1.alloc (.cells #[.int .u8 24, .int .u8 0, .int .u8 24, .int .u8 1] 5) := ⟨_, rfl⟩
  obtain ⟨v0, hv0⟩ : ∃ x : Value, x = .slice (some ⟨w1.heap.size, 0, none⟩) 4 4 := ⟨_, rfl⟩
  have HO0 := Lib.hid (show u0.ownsRow w1.heap.size 5 1 v0 4 (u8s [24, 0, 24, 1]) from by rw [hu0, hv0]; exact lit_own w1 [24, 0, 24, 1] w1.heap.size (Nat.le_refl _) (by decide))
  have HBZ := Lib.hid (show Below w1.heap.size w1 u0 from by rw [hu0]; exact (Below.refl _ w1).alloc (Nat.le_refl _) _)
  rw [← hu0, ← hv0]
  clear hu0 hv0
  go_wp2_with (first | (go_at_call 17; refine (KN.out _).mono ?_; rintro e w1 ⟨rfl, hb1⟩; have HB1 := Lib.hid hb1; clear hb1) | (go_at_call 21; refine (HWI.out _).mono ?_; rintro e wx ⟨rfl, rfl⟩) | (go_at_call 26; first | (with_reducible refine (HWX.out _).mono ?_; rintro e wx ⟨rfl, rfl⟩) | (with_reducible refine (HWY.out _).mono ?_; rintro e wx ⟨rfl, rfl⟩)) | (at_builtin; refine wpList_append_own _ rfl _ _ 44 rfl w1.heap.size 5 i0 _ 1 1 t22 hi hz0 hz1 hz2 rfl (by decide) _ 7 (u8s [24, 0, 24, 1, 16, 23, 5]) rfl (HO1.out.alloc _) ⟨_, 0, none⟩ 3 3 (u8s [25, 2, 0]) rfl rfl (lit_cells _ [25, 2, 0] _) (u8s_one _) (by unfold maxLen; omega) (by omega) (by have hq := HBA.out.size; first | omega | (simp; done) | (simp; omega)) ?_; intro v2 u2 hown hgrow hnil; have HO2 := Lib.hid (show u2.ownsRow w1.heap.size 5 1 v2 10 (u8s [24, 0, 24, 1, 16, 23, 5, 25, 2, 0]) from hown); have HB2 := Lib.hid (grown_below (B := w1.heap.size) (HBA.out.alloc (by have hq := HBA.out.size; first | omega | (simp; done) | (simp; omega)) _) (HO1.out.alloc _) hgrow (Nat.le_refl _) (by have hq := HBA.out.size; first | omega | (simp; done) | (simp; omega))); clear hown hgrow hnil) | (at_builtin; refine wpList_append_own _ rfl _ _ 44 rfl w1.heap.size 5 i0 _ 1 1 t22 hi hz0 hz1 hz2 rfl (by decide) _ 4 (u8s [24, 0, 24, 1]) rfl (HO0.out.alloc _) ⟨_, 0, none⟩ 3 3 (u8s [16, 23, 5]) rfl rfl (lit_cells _ [16, 23, 5] _) (u8s_one _) (by unfold maxLen; omega) (by omega) (by have hq := HBZ.out.size; first | omega | (simp; done) | (simp; omega)) ?_; intro v1 u1 hown hgrow hnil; have HO1 := Lib.hid (show u1.ownsRow w1.heap.size 5 1 v1 7 (u8s [24, 0, 24, 1, 16, 23, 5]) from hown); have HBA := Lib.hid (grown_below (B := w1.heap.size) (HBZ.out.alloc (by have hq := HBZ.out.size; first | omega | (simp; done) | (simp; omega)) _) (HO0.out.alloc _) hgrow (Nat.le_refl _) (by have hq := HBZ.out.size; first | omega | (simp; done) | (simp; omega))); clear hown hgrow hnil))
  obtain ⟨g2, c2, rfl, hcl⟩ := CodeLies.of_own (b := scC 5) HO2.out (by decide)
  refine (RN.out _ _ _ hcl).mono ?_
  rintro e w3 ⟨hb3, v3, n3, rfl⟩
  have HB3 := Lib.hid (below3 HB1.out HB1.out.size (below3 HB2.out HB2.out.size hb3))
  clear hb3 hcl
  go_wp2
  go_ret
  exact ⟨rfl, HB3.out.alloc HB3.out.size _⟩

set_option maxHeartbeats 8000000 in
set_option maxRecDepth 100000 in
theorem vmStacks_5f (a b c x y : Int) (hx : wrapK 5 a = x) (hy : wrapK 5 b = y) (hk : c % 6 = 5) (hxy : ¬ x = y) (w : World) :
    Calls Tryd.prog 11 #[.int .i64 a, .int .i64 b, .int .i64 c] w fun e w' => e = .returned (.bool true) ∧ Below w.heap.size w w' := by
  have KN := Lib.hid (fun W => known14_any W)
  obtain ⟨i0, hi, hz0, hz1, hz2⟩ := info_parts byteInfo
  have t22 := byteRow
  have hxx : wrapK 5 x = x := by rw [← hx]; exact wrapK5 a
  have hyy : wrapK 5 y = y := by rw [← hy]; exact wrapK5 b
  have WX := fun W => rwrap_any 5 a W
  have WY := fun W => rwrap_any 5 b W
  have WI := fun W => within14_any c 6 (by decide) (by decide) W
  rw [hx] at WX
  rw [hy] at WY
  rw [hk] at WI
  have HWX := Lib.hid WX
  have HWY := Lib.hid WY
  have HWI := Lib.hid WI
  have RN := Lib.hid (fun (u : World) (g cc : Nat) (h : CodeLies u g (scC 5) cc) => show Calls Tryd.prog 29 #[.slice (some ⟨g, 0, none⟩) 10 cc, .agg #[.int .i64 x, .int .i64 y, .int .i64 0, .int .i64 0], .int .i64 0] u fun e w' => Below u.heap.size u w' ∧ ∃ (v : Value) (n : Nat), e = .returned (.tuple #[v, .agg #[.int .i64 5, .int .i64 6, .int .i64 0, .int .i64 8], .int .i64 n, .int .i64 0, .bool true]) from by
    obtain ⟨R, r0, r1, r2, r3, hR⟩ := scC_run none none none 0 0 0 0 0 0 5 x y 0 (by omega) hxx hyy
    have r2 : R.o2 = 0 := by rw [r2]; simp [scW, hxy]
    have h := run14_any g (scC 5) cc x y 0 0 0 u h (scC_fine 5 (by omega)) (fun SA SC Ca Cc f La Lc => hR SA Ca La SC Cc cc f g Lc)
    rw [r0, r1, r2, r3] at h
    exact h.mono fun e w' ⟨h1, v, h2, _⟩ => ⟨h1, v, _, h2⟩)
  have E4 := eq4_same 5 6 0 8
  clear WX WY WI hx hy hk hxx hyy
  go_enter Tryd.func11, Tryd.ntmps11
  go_upto_region 6 with (first | (go_at_call 17; refine (KN.out _).mono ?_; rintro e w1 ⟨rfl, hb1⟩; have HB1 := Lib.hid hb1; clear hb1) | (go_at_call 21; refine (HWI.out _).mono ?_; rintro e wx ⟨rfl, rfl⟩) | (go_at_call 26; first | (with_reducible refine (HWX.out _).mono ?_; rintro e wx ⟨rfl, rfl⟩) | (with_reducible refine (HWY.out _).mono ?_; rintro e wx ⟨rfl, rfl⟩)))
  obtain ⟨u0, hu0⟩ : ∃ x : World, x = w1.alloc (.cells #[.int .u8 24, .int .u8 0, .int .u8 24, .int .u8 1] 5) := ⟨_, rfl⟩
  obtain ⟨v0, hv0⟩ : ∃ x : Value, x = .slice (some ⟨w1.heap.size, 0, none⟩) 4 4 := ⟨_, rfl⟩
  have HO0 := Lib.hid (show u0.ownsRow w1.heap.size 5 1 v0 4 (u8s [24, 0, 24, 1]) from by rw [hu0, hv0]; exact lit_own w1 [24, 0, 24, 1] w1.heap.size (Nat.le_refl _) (by decide))
  have HBZ := Lib.hid (show Below w1.heap.size w1 u0 from by rw [hu0]; exact (Below.refl _ w1).alloc (Nat.le_refl _) _)
  rw [← hu0, ← hv0]
  clear hu0 hv0
  go_wp2_with (first | (go_at_call 17; refine (KN.out _).mono ?_; rintro e w1 ⟨rfl, hb1⟩; have HB1 := Lib.hid hb1; clear hb1) | (go_at_call 21; refine (HWI.out _).mono ?_; rintro e wx ⟨rfl, rfl⟩) | (go_at_call 26; first | (with_reducible refine (HWX.out _).mono ?_; rintro e wx ⟨rfl, rfl⟩) | (with_reducible refine (HWY.out _).mono ?_; rintro e wx ⟨rfl, rfl⟩)) | (at_builtin; refine wpList_append_own _ rfl _ _ 44 rfl w1.heap.size 5 i0 _ 1 1 t22 hi hz0 hz1 hz2 rfl (by decide) _ 7 (u8s [24, 0, 24, 1, 16, 23, 5]) rfl (HO1.out.alloc _) ⟨_, 0, none⟩ 3 3 (u8s [25, 2, 0]) rfl rfl (lit_cells _ [25, 2, 0] _) (u8s_one _) (by unfold maxLen; omega) (by omega) (by have hq := HBA.out.size; first | omega | (simp; done) | (simp; omega)) ?_; intro v2 u2 hown hgrow hnil; have HO2 := Lib.hid (show u2.ownsRow w1.heap.size 5 1 v2 10 (u8s [24, 0, 24, 1, 16, 23, 5, 25, 2, 0]) from hown); have HB2 := Lib.hid (grown_below (B := w1.heap.size) (HBA.out.alloc (by have hq := HBA.out.size; first | omega | (simp; done) | (simp; omega)) _) (HO1.out.alloc _) hgrow (Nat.le_refl _) (by have hq := HBA.out.size; first | omega | (simp; done) | (simp; omega))); clear hown hgrow hnil) | (at_builtin; refine wpList_append_own _ rfl _ _ 44 rfl w1.heap.size 5 i0 _ 1 1 t22 hi hz0 hz1 hz2 rfl (by decide) _ 4 (u8s [24, 0, 24, 1]) rfl (HO0.out.alloc _) ⟨_, 0, none⟩ 3 3 (u8s [16, 23, 5]) rfl rfl (lit_cells _ [16, 23, 5] _) (u8s_one _) (by unfold maxLen; omega) (by omega) (by have hq := HBZ.out.size; first | omega | (simp; done) | (simp; omega)) ?_; intro v1 u1 hown hgrow hnil; have HO1 := Lib.hid (show u1.ownsRow w1.heap.size 5 1 v1 7 (u8s [24, 0, 24, 1, 16, 23, 5]) from hown); have HBA := Lib.hid (grown_below (B := w1.heap.size) (HBZ.out.alloc (by have hq := HBZ.out.size; first | omega | (simp; done) | (simp; omega)) _) (HO0.out.alloc _) hgrow (Nat.le_refl _) (by have hq := HBZ.out.size; first | omega | (simp; done) | (simp; omega))); clear hown hgrow hnil))
  obtain ⟨g2, c2, rfl, hcl⟩ := CodeLies.of_own (b := scC 5) HO2.out (by decide)
  refine (RN.out _ _ _ hcl).mono ?_
  rintro e w3 ⟨hb3, v3, n3, rfl⟩
  have HB3 := Lib.hid (below3 HB1.out HB1.out.size (below3 HB2.out HB2.out.size hb3))
  clear hb3 hcl
  go_wp2
  go_ret
  exact ⟨rfl, HB3.out.alloc HB3.out.size _⟩

theorem vmStacks_walk (a0 a1 a2 : Int) (w : World) (w0 : I64 a0) (w1 : I64 a1) (w2 : I64 a2) :
    Calls Tryd.prog 11 #[.int .i64 a0, .int .i64 a1, .int .i64 a2] w fun e w' => e = .returned (.bool true) ∧ Below w.heap.size w w' := by
  rcases (show a2 % 6 = 0 ∨ a2 % 6 = 1 ∨ a2 % 6 = 2 ∨ a2 % 6 = 3 ∨ a2 % 6 = 4 ∨ a2 % 6 = 5 by omega) with h | h | h | h | h | h
  · exact vmStacks_0 a0 a1 a2 _ _ rfl rfl h w
  · exact vmStacks_1 a0 a1 a2 _ _ rfl rfl h w
  · exact vmStacks_2 a0 a1 a2 _ _ rfl rfl h w
  · exact vmStacks_3 a0 a1 a2 _ _ rfl rfl h w
  · exact vmStacks_4 a0 a1 a2 _ _ rfl rfl h w
  · by_cases e : wrapK 5 a0 = wrapK 5 a1
    · exact vmStacks_5t a0 a1 a2 _ _ rfl rfl h e w
    · exact vmStacks_5f a0 a1 a2 _ _ rfl rfl h e w
end Go.Proofs.YtngobbbinacomaaDoor
