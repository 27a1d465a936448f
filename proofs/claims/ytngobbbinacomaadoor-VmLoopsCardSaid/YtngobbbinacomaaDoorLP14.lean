/- Chapter 14: VmLoops, walked. -/
import Derived.Test.YtngobbbinacomaaDoorU14
import Derived.Test.YtngobbbinacomaaDoorLO14
namespace Go.Proofs.YtngobbbinacomaaDoor
open Go.RowKit Go.Proofs.YtngobbbinacomaaDoor.c11 Go.Proofs.YtngobbbinacomaaDoor.c10
set_option linter.unusedVariables false
set_option linter.unusedSimpArgs false
attribute [local go_sem ↓] Go.wp_at_zero Go.wp_at_succ

theorem Img.below {w w' : World} {E : Env} {SA : Option Addr} {SC : Nat} {l : List SymD} (h : Img w E SA SC l) (hb : Below w.heap.size w w') : Img w' E SA SC l := by
  have hs := hb.size
  have hk : ∀ b, b < w.heap.size → w'.heap[b]? = w.heap[b]? := fun b h => hb.block b h
  have hm : ∀ b, b < w.heap.size → b < w'.heap.size := fun b h => by omega
  exact ⟨h.syms, (h.row.below hb).more hs, h.few, h.sc, h.lay, (h.consts.keep hk).mono hm, h.cc, (h.funcs.keep hk).mono hm, h.fc, fun i b hi => ⟨((h.code i b hi).1.keep hk).mono hm, (h.code i b hi).2⟩⟩

theorem heap_alloc_at (W : World) (o : Obj) (b : Nat) : (W.alloc o).heap[b]? = if b = W.heap.size then some o else W.heap[b]? := by
  show (W.heap.push o)[b]? = _
  rw [Array.getElem?_push]
theorem heap_size_at (W : World) (o : Obj) : (W.alloc o).heap.size = W.heap.size + 1 := by simp
theorem blk_below {w w' : World} {B b : Nat} {x : Obj} (h : w.heap[b]? = some x) (hb : Below B w w') (hl : b < B) : w'.heap[b]? = some x := (hb.block b hl).trans h

/-- A row made of what was laid. -/
theorem rowX_blk {w : World} {X : Nat → Prop} {size n b : Nat} {cs : Array Value} {t : TypeId} (h : w.heap[b]? = some (.cells cs t (0, 0))) (hX : X b) (xs : List Value) (hx : cs.toList = xs) (hn : xs.length = n * size) : RowX w X size (some ⟨b, 0, none⟩) n xs := by
  refine ⟨hn, fun _ => ⟨b, 0, rfl, hX, fun j u hu => ?_⟩⟩
  rw [Nat.zero_add]
  refine (cell_of_row w b j _ _ (0, 0) h).trans ?_
  subst hx
  simpa using hu

set_option maxRecDepth 100000 in
theorem imgL_made (v : World) (H : Nat) (t0 t1 t2 t3 t4 : TypeId) (i0 : Int)
    (h0 : v.heap[H]? = some (.cells #[.int .i64 0] t0 (0, 0)))
    (h1 : v.heap[H + 1]? = some (.cells #[.string { data := #[120] }, .int .i64 5, .int .i64 0, .int .i64 0, .slice none 0 0, .bool false, .slice (some ⟨H, 0, none⟩) 1 1] t1 (0, 0)))
    (h2 : v.heap[H + 1 + 1]? = some (.cells #[.int .i64 1, .int .i64 0] t2 (0, 0)))
    (h3 : v.heap[H + 1 + 1 + 1]? = some (.cells (lb.map (Value.int .u8)).toArray t3 (0, 0)))
    (h4 : v.heap[H + 1 + 1 + 1 + 1]? = some (.cells #[.slice (some ⟨H + 1 + 1 + 1, 0, none⟩) 23 23] t4 (0, 0)))
    (hv : H + 5 ≤ v.heap.size) :
    Img v (envL (some ⟨H + 1, 0, none⟩) (some ⟨H + 1 + 1, 0, none⟩) (some ⟨H + 1 + 1 + 1 + 1, 0, none⟩) (some ⟨H + 1 + 1 + 1, 0, none⟩) i0 none 0) (some ⟨H + 1, 0, none⟩) 1 [lS] := by
  have hc : ∀ j, v.cell? ⟨H + 1, j, none⟩ = (#[.string { data := #[120] }, .int .i64 5, .int .i64 0, .int .i64 0, .slice none 0 0, .bool false, .slice (some ⟨H, 0, none⟩) 1 1] : Array Value)[j]? := fun j => cell_of_row v _ j _ _ (0, 0) h1
  refine ⟨rfl, ⟨rfl, fun _ => ⟨_, 0, rfl, by omega, ?_⟩, ?_⟩, by decide, by decide, rfl, ?_, by simp [envL], ?_, by simp [envL], ?_⟩
  · intro i s hi
    cases i with
    | succ i => simp at hi
    | zero =>
      simp at hi
      subst hi
      refine ⟨none, 0, some ⟨H, 0, none⟩, 1, ?_, ?_, ?_, ?_, ?_, ?_, ?_, ⟨rfl, fun h => absurd h (by decide)⟩, by decide, by decide, ?_, by decide, by decide⟩
      · exact hc 0
      · exact hc 1
      · exact hc 2
      · exact hc 3
      · exact hc 4
      · exact hc 5
      · exact hc 6
      · refine ⟨rfl, fun _ => ⟨_, 0, rfl, by omega, fun j x hx => ?_⟩⟩
        cases j with
        | succ j => simp [lS] at hx
        | zero =>
          simp [lS] at hx
          subst hx
          exact (cell_of_row v _ 0 _ _ (0, 0) h0).trans rfl
  · intro s hs
    simp at hs
    subst hs
    exact ⟨by decide, by decide, by decide, by decide⟩
  · exact rowX_blk h2 (by omega) _ rfl rfl
  · exact rowX_blk h4 (by omega) _ rfl rfl
  · intro i b hi
    cases i with
    | succ i => simp [envL] at hi
    | zero =>
      simp [envL] at hi
      subst hi
      exact ⟨rowX_blk h3 (by omega) _ rfl rfl, (by show lb.length ≤ 23; decide), (by show (23 : Nat) ≤ 9223372036854775807; decide), by decide, by decide⟩

theorem jb_ok : (∀ x ∈ jb, 0 ≤ x ∧ x < 256) ∧ (∀ x ∈ jb, x ≠ 27) ∧ jb.length ≤ 4611686018427387904 := by decide
theorem runJ {w : World} {f g : Nat} (m : Nat) (hm : m < 300) (h : CodeIn w w.heap.size f g jb) : Calls Tryd.prog 22 #[.agg #[.slice none 0 0, .slice none 0 0, .slice (some ⟨f, 0, none⟩) 1 1], .slice none 0 0, .agg #[.int .i64 0, .int .i64 0, .int .i64 0, .int .i64 0], .agg #[.int .i64 0, .int .i64 0, .int .i64 0, .int .i64 0], .int .i64 0, .int .i64 m] w
    (Ran w 0 0 0 0 m 23) := by
  have hmm : (max (m : Int) 0).toNat = m := by omega
  refine (run1 h jb_ok.1 jb_ok.2.1 jb_ok.2.2 0 0 0 0 0 0 0 0 0 m (by omega) (R := ⟨[], 0, 0, 0, 0, 0, m, []⟩) (x := 23) (fun La Lc => ?_) rfl).mono ?_
  · rw [hmm, jb_run _ m (m + 1) _ rfl]
    simp [St.at_]
  rintro e w' ⟨hb, v, he, hv⟩
  obtain ⟨A, c, rfl, _, _⟩ := own_slice hv
  exact ⟨hb, A, c, by simpa using he⟩

/-- The loop's run. -/
theorem runL14 {w : World} {SA Ca Fa Ga : Option Addr} (n m : Nat) (hn : n < 20) (hm : m < 300) (hI : Img w (envL SA Ca Fa Ga (1 + n) none 0) SA 1 [lS]) (q : Nat) (hq : q < w.heap.size) (hc : w.cell? ⟨q, 0, none⟩ = some (.int .i64 0)) :
    Calls Tryd.prog 22 #[.agg #[.slice SA 1 1, .slice Ca 2 2, .slice Fa 1 1], .slice (some ⟨q, 0, none⟩) 1 1, .agg #[.int .i64 (1 + n), .int .i64 0, .int .i64 0, .int .i64 0], .agg #[.int .i64 5, .int .i64 0, .int .i64 0, .int .i64 0], .int .i64 0, .int .i64 m] w
      fun e w' => Below w.heap.size w w' ∧ (m < 2 + 8 * (1 + n) + 3 → e = .returned (.tuple #[.slice none 0 0, .agg #[.int .i64 0, .int .i64 0, .int .i64 0, .int .i64 0], .int .i64 m, .int .i64 23])) ∧
        (2 + 8 * (1 + n) + 3 ≤ m → ∃ g c, e = .returned (.tuple #[.slice (some ⟨g, 0, none⟩) 1 c, .agg #[.int .i64 0, .int .i64 0, .int .i64 0, .int .i64 0], .int .i64 ((2 + 8 * (1 + n) + 3 : Nat) : Int), .int .i64 0]) ∧ w'.cell? ⟨g, 0, none⟩ = some (.int .i64 0) ∧ g < w'.heap.size ∧ 1 ≤ c ∧ c ≤ 9223372036854775807) := by
  have hmm : (max (m : Int) 0).toNat = m := by omega
  have h := run_any (envL SA Ca Fa Ga (1 + n) none 0) SA 1 [lS] w hI (fun c hc => by simp [envL, lS, cellsOf, SymD.cells, SymD.count, SymD.size, sizeOf8] at hc; obtain ⟨i, hi, rfl⟩ := hc; simp [SymD.cell]) (.inl fun c hc x hx => by simp [envL] at hc; subst hc; revert x; decide) (some ⟨q, 0, none⟩) 1 1 [0] ⟨rfl, fun _ => ⟨q, 0, rfl, hq, fun j u hu => by
    cases j with
    | succ j => simp at hu
    | zero => simp at hu; subst hu; simpa using hc⟩⟩ (by decide) (by decide) 5 0 0 0 m (by omega)
  rw [hmm] at h
  refine h.mono ?_
  rintro e w' ⟨hbl, La, Lc, hh⟩
  have hE : ∀ S x, callP (atLay (envL SA Ca Fa Ga (1 + n) none 0) La Lc) (m + 1) ⟨[0], 5, 0, 0, 0, m, 0, []⟩ 0 = (S, x) ↔ (({ (execP (envL SA Ca Fa Ga (1 + n) La Lc) (m + 1) lb 0 ⟨[0], 5, 0, 0, 0, m, 0, []⟩).1 with stk := [] } : St), (execP (envL SA Ca Fa Ga (1 + n) La Lc) (m + 1) lb 0 ⟨[0], 5, 0, 0, 0, m, 0, []⟩).2) = (S, x) := fun S x => by
    unfold callP
    rw [if_pos (by simp [atLay, envL])]
    rfl
  obtain ⟨R, hR⟩ : ∃ R, execP (envL SA Ca Fa Ga (1 + n) La Lc) (m + 1) lb 0 ⟨[0], 5, 0, 0, 0, m, 0, []⟩ = R := ⟨_, rfl⟩
  have hL := lb_any SA Ca Fa Ga La Lc n hn m (m + 1) (Nat.lt_succ_self _)
  rw [hR] at hL hE
  have hC := (hE { R.1 with stk := [] } R.2).2 rfl
  simp only [hC] at hh
  refine ⟨hbl, fun hlt => ?_, fun hle => ?_⟩
  · obtain ⟨s1, s2⟩ := hL.2 hlt
    rw [s1, s2] at hh
    rcases hh with ⟨h0, _⟩ | ⟨_, he⟩
    · cases h0
    · exact he
  · have hq := hL.1 hle
    subst hq
    rcases hh with ⟨_, v, he, hv⟩ | ⟨h0, _⟩
    · obtain ⟨A, c, rfl, h1, h2⟩ := own_slice hv
      have hv' : w'.ownsRow w.heap.size 3 1 (.slice A 1 c) 1 [.int .i64 0] := hv
      obtain ⟨g, cap, hv2, _, _⟩ := hv'.form (by decide)
      have hA : A = some ⟨g, 0, none⟩ := by injection hv2
      subst hA
      exact ⟨g, c, he, (hv'.cellAt 0 (by decide)).trans rfl, (hv'.lt g rfl).2, h1, h2⟩
    · exact absurd rfl h0

set_option maxHeartbeats 8000000 in
set_option maxRecDepth 100000 in
theorem vmLoops_of (n m : Nat) (a b : Int) (hn : a % 20 = n) (hm : b % 300 = m) (hn20 : n < 20) (hm3 : m < 300) (w : World) :
    Calls Tryd.prog 6 #[.int .i64 a, .int .i64 b] w fun e w' => e = .returned (.bool true) ∧ Below w.heap.size w w' := by
  have KN := Lib.hid (known14_any w)
  have WN := fun W => within14_any a 20 (by decide) (by decide) W
  have WM := fun W => within14_any b 300 (by decide) (by decide) W
  rw [hn] at WN
  rw [hm] at WM
  have HWN := Lib.hid WN
  have HWM := Lib.hid WM
  clear WN WM hn hm
  go_enter Tryd.func6, Tryd.ntmps6
  go_upto_region 5 with (first | (go_at_call 17; refine (KN.out).mono ?_; rintro e w1 ⟨rfl, hb1⟩; have HB1 := Lib.hid hb1; clear hb1) | (go_at_call 21; first | (with_reducible refine (HWN.out _).mono ?_; rintro e w2 ⟨rfl, rfl⟩) | (with_reducible refine (HWM.out _).mono ?_; rintro e w2 ⟨rfl, rfl⟩)))
  obtain ⟨wb, hwb⟩ : ∃ x : World, x = (((w1.alloc (.cells #[.int .u8 18, .int .u8 0] 5)).alloc (.cells #[.slice (some ⟨w1.heap.size, 0, none⟩) 2 2] 44)).alloc (.cells #[.slice none 0 0, .slice none 0 0, .slice (some ⟨w1.heap.size + 1, 0, none⟩) 1 1] 29)) := ⟨_, rfl⟩
  have hc : CodeIn wb (w1.heap.size + 2) (w1.heap.size + 1) w1.heap.size jb := by rw [hwb]; exact code_made w1 jb _ _ _
  have hsz : wb.heap.size = w1.heap.size + 3 := by rw [hwb]; simp
  have hb0 : Below w1.heap.size w1 wb := by rw [hwb]; exact ((((Below.refl _ w1).alloc (by simp) _).alloc (by simp) _).alloc (by simp; omega) _)
  have k0 : wb.cell? ⟨w1.heap.size + 1 + 1, 0, none⟩ = some (.slice none 0 0) := by rw [hwb]; go_simp
  have k1 : wb.cell? ⟨w1.heap.size + 1 + 1, 1, none⟩ = some (.slice none 0 0) := by rw [hwb]; go_simp
  have k2 : wb.cell? ⟨w1.heap.size + 1 + 1, 2, none⟩ = some (.slice (some ⟨w1.heap.size + 1, 0, none⟩) 1 1) := by rw [hwb]; go_simp
  rw [← hwb]
  clear hwb
  have hz1 := HB1.out.size
  have HB0 := Lib.hid (below3 HB1.out hz1 hb0)
  have RB := Lib.hid (runJ (w := wb) m hm3 (hc.more (by omega)))
  clear hc hb0 hsz
  go_upto_region 7 with (go_at_call 22; refine (RB.out).mono ?_; rintro e w2 ⟨hb2, A2, c2, rfl⟩; have HB2 := Lib.hid hb2; clear hb2)
  obtain ⟨vb, hvb⟩ : ∃ x : World, x = (((((((w2.alloc (.cells #[.int .i64 0, .int .i64 0, .int .i64 0, .int .i64 0] 23)).alloc (.cells #[.int .i64 0] 3)).alloc (.cells #[.string { data := #[120] }, .int .i64 5, .int .i64 0, .int .i64 0, .slice none 0 0, .bool false, .slice (some ⟨w2.heap.size + 1, 0, none⟩) 1 1] 52)).alloc (.cells #[.int .i64 1, .int .i64 0] 3)).alloc (.cells #[.int .u8 24, .int .u8 0, .int .u8 4, .int .u8 0, .int .u8 3, .int .u8 0, .int .u8 2, .int .u8 0, .int .u8 8, .int .u8 4, .int .u8 0, .int .u8 3, .int .u8 0, .int .u8 2, .int .u8 1, .int .u8 16, .int .u8 19, .int .u8 4, .int .u8 3, .int .u8 0, .int .u8 25, .int .u8 0, .int .u8 0] 5)).alloc (.cells #[.slice (some ⟨w2.heap.size + 1 + 1 + 1 + 1, 0, none⟩) 23 23] 44)).alloc (.cells #[.slice (some ⟨w2.heap.size + 1 + 1, 0, none⟩) 1 1, .slice (some ⟨w2.heap.size + 1 + 1 + 1, 0, none⟩) 2 2, .slice (some ⟨w2.heap.size + 1 + 1 + 1 + 1 + 1, 0, none⟩) 1 1] 29)) := ⟨_, rfl⟩
  have hvz : vb.heap.size = w2.heap.size + 7 := by rw [hvb]; simp
  have hI := imgL_made vb (w2.heap.size + 1) 3 52 3 5 44 (1 + n) (by rw [hvb]; simp only [heap_alloc_at, heap_size_at]; simp) (by rw [hvb]; simp only [heap_alloc_at, heap_size_at]; simp) (by rw [hvb]; simp only [heap_alloc_at, heap_size_at]; simp) (by rw [hvb]; simp only [heap_alloc_at, heap_size_at]; simp [lb]) (by rw [hvb]; simp only [heap_alloc_at, heap_size_at]; simp) (by omega)
  have hbv : Below w2.heap.size w2 vb := by rw [hvb]; repeat (first | exact Below.refl _ _ | refine Below.alloc ?_ (by first | omega | (simp; done) | (simp; omega)) _)
  have j0 : vb.cell? ⟨w2.heap.size + 1 + 1 + 1 + 1 + 1 + 1, 0, none⟩ = some (.slice (some ⟨w2.heap.size + 1 + 1, 0, none⟩) 1 1) := by rw [hvb]; go_simp
  have j1 : vb.cell? ⟨w2.heap.size + 1 + 1 + 1 + 1 + 1 + 1, 1, none⟩ = some (.slice (some ⟨w2.heap.size + 1 + 1 + 1, 0, none⟩) 2 2) := by rw [hvb]; go_simp
  have j2 : vb.cell? ⟨w2.heap.size + 1 + 1 + 1 + 1 + 1 + 1, 2, none⟩ = some (.slice (some ⟨w2.heap.size + 1 + 1 + 1 + 1 + 1, 0, none⟩) 1 1) := by rw [hvb]; go_simp
  have hh : w2.heap.size + 1 + 1 + 1 + 1 + 1 + 1 < vb.heap.size := by omega
  rw [← hvb]
  clear hvb
  have hz2 := HB2.out.size
  have HBV := Lib.hid (below3 HB2.out hz2 hbv)
  have HR := Lib.hid (fun (W : World) (hb : Below vb.heap.size vb W) (q : Nat) (hq : q < W.heap.size) (hc : W.cell? ⟨q, 0, none⟩ = some (.int .i64 0)) => runL14 n m hn20 hm3 (hI.below hb) q hq hc)
  clear hI hbv hvz
  have hnn : IntKind.i64.wrap (1 + (n : Int)) = 1 + n := IntWalk.i64_in _ (by omega)
  by_cases hlt : m < 2 + 8 * (1 + n) + 3
  · have hlt' : (m : Int) < 2 + 8 * (1 + n) + 3 := by omega
    have HLT := Lib.hid hlt
    clear hlt
    go_wp2_with (go_at_call 22; refine (HR.out _ ((Below.refl _ _).alloc (Nat.le_refl _) _) vb.heap.size (by simp) (by go_simp)).mono ?_; rintro e w3 ⟨hb3, hr, _⟩; obtain rfl := hr HLT.out; have HB3 := Lib.hid hb3; clear hb3)
    go_ret
    exact ⟨rfl, below3 HB0.out HB0.out.size (below3 HBV.out HBV.out.size (below3 ((Below.refl _ vb).alloc (Nat.le_refl _) _) (by simp) (HB3.out.alloc HB3.out.size _)))⟩
  · have hlt' : ¬ (m : Int) < 2 + 8 * (1 + n) + 3 := by omega
    have HLT := Lib.hid hlt
    have hcc : ((2 + 8 * (1 + n) + 3 : Nat) : Int) = 2 + 8 * (1 + n) + 3 := by omega
    clear hlt
    go_wp2_with (go_at_call 22; refine (HR.out _ ((Below.refl _ _).alloc (Nat.le_refl _) _) vb.heap.size (by simp) (by go_simp)).mono ?_; rintro e w3 ⟨hb3, _, hr⟩; obtain ⟨g, c3, rfl, hc3, hg3, h13, hm13⟩ := hr (by have := HLT.out; omega); have HB3 := Lib.hid hb3; clear hb3; have hgn : ¬ g = w3.heap.size := by omega)
    go_ret
    exact ⟨rfl, below3 HB0.out HB0.out.size (below3 HBV.out HBV.out.size (below3 ((Below.refl _ vb).alloc (Nat.le_refl _) _) (by simp) (HB3.out.alloc HB3.out.size _)))⟩

theorem vmLoops_walk (a0 a1 : Int) (w : World) (w0 : I64 a0) (w1 : I64 a1) :
    Calls Tryd.prog 6 #[.int .i64 a0, .int .i64 a1] w fun e w' => e = .returned (.bool true) ∧ Below w.heap.size w w' := by
  refine vmLoops_of (a0 % 20).toNat (a1 % 300).toNat a0 a1 ?_ ?_ ?_ ?_ w
  all_goals omega
end Go.Proofs.YtngobbbinacomaaDoor
