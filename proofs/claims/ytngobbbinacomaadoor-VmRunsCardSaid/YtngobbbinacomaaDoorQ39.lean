/- Chapter 14: the document's step: Store, Out. -/
import Derived.Test.YtngobbbinacomaaDoorQ38
namespace Go.Proofs.YtngobbbinacomaaDoor
open Go.RowKit Go.Proofs.YtngobbbinacomaaDoor.c11 Go.Proofs.YtngobbbinacomaaDoor.c10 Go.Proofs.YtngobbbinacomaaDoor.c13
set_option linter.unusedVariables false
set_option linter.unusedSimpArgs false
attribute [local go_sem ↓] Go.wp_at_zero Go.wp_at_succ
theorem RMach.stk {M : RWho} {w : World} {S : St} (h : RMach M w S) (r : List (Int × Int)) : RMach M w { S with stk := r } := ⟨h.box, h.row, h.stat, h.kg, h.ne, h.bud, h.cells⟩
theorem step_set {M : RWho} {K : Nat} {w wz : World} {S : St} {r : List (Int × Int)} {a : Nat} {xb : Int} (h : RMach M w S) (hKw : K ≤ w.heap.size) (ha : a < S.cells.length) (hba : Below (w.setCell ⟨M.cg, a, none⟩ (.int .i64 xb)).heap.size (w.setCell ⟨M.cg, a, none⟩ (.int .i64 xb)) wz) :
    RMach M wz { S with stk := r, cells := S.cells.set a xb } ∧ RFr M K w wz :=
  ⟨((h.setC ha xb).stk r).below hba, ((RFr.refl M K w).setC _ _).below hba (by simpa [World.setCell] using hKw)⟩
theorem step_out {M : RWho} {K : Nat} {w wz : World} {S : St} {r : List (Int × Int)} {a : Nat} {xb : Int} (h : RMach M w S) (hKw : K ≤ w.heap.size) (ha : a < 4) (hba : Below (w.setCell ⟨M.g, 9 + a, none⟩ (.int .i64 xb)).heap.size (w.setCell ⟨M.g, 9 + a, none⟩ (.int .i64 xb)) wz) :
    RMach M wz (setOut { S with stk := r } (a : Int) xb) ∧ RFr M K w wz := by
  refine ⟨RMach.below ?_ hba, ((RFr.refl M K w).setG _ _).below hba (by simpa [World.setCell] using hKw)⟩
  have hm := h.stk r
  rcases (show a = 0 ∨ a = 1 ∨ a = 2 ∨ a = 3 by omega) with rfl | rfl | rfl | rfl
  · exact hm.setG 9 _ rfl rfl h.bud
  · exact hm.setG 10 _ rfl rfl h.bud
  · exact hm.setG 11 _ rfl rfl h.bud
  · exact hm.setG 12 _ rfl rfl h.bud
theorem setOut_stk (S : St) (a x : Int) : (setOut S a x).stk = S.stk := (setOut_same S a x).2
set_option maxHeartbeats 4000000 in
set_option maxRecDepth 100000 in
theorem rstep_store (M : RWho) (w : World) (S : St) (h : RMach M w S) (K : Nat) (hKw : K ≤ w.heap.size) (hg : M.g < K) (hc : M.cg < K) (v : Value) (hv : StackAt w K v S.stk) (hh : S.stk.length ≤ 1000000) (a0 a1 N : Int) (a : Nat) (r : List (Int × Int)) (kb xb : Int) (hs : S.stk = r ++ [(kb, xb)]) (hac : a < S.cells.length) :
    Calls Tryd.prog 56 #[.pointer (some ⟨M.g, 0, none⟩), .agg #[.int .i64 a0, .int .i64 a1, .int .i64 4, .int .i64 (a : Int), .int .i64 N], v] w (StepPost M K w (({ S with stk := r, cells := S.cells.set a xb } : St), 0)) := by
  have hl : S.stk.length = r.length + 1 := by rw [hs]; simp
  obtain ⟨sg, c, hvv, hsg, hsw⟩ := World.ownsRow.form hv (by omega)
  subst hvv
  obtain ⟨_, c', hvc, hlc, hcm⟩ := own_slice hv
  obtain rfl : c = c' := by injection hvc
  unfold maxLen at hcm
  obtain ⟨i0, hi, hz0, hz1, hz2⟩ := info_parts valInfo
  have t22 := valTy
  have TK := Lib.hid (fun u => rtakes_any 4 u)
  rw [show takesN 4 = 1 from rfl] at TK
  have HM := Lib.hid h
  have hv2 : w.ownsRow K 106 2 (.slice (some ⟨sg, 0, none⟩) (r.length + 1) c) (r.length + 1) (valRow r ++ valCells (kb, xb)) := by
    have h2 := hv
    unfold StackAt at h2
    rw [hl, hs, valRow_app] at h2
    exact h2
  have s0 : w.cell? ⟨sg, r.length * 2, none⟩ = some (.int .i64 kb) := by
    have h3 := hv2.cells rfl (r.length * 2) (.int .i64 kb) (by rw [List.getElem?_append_right (by rw [valRow_length]; omega), valRow_length]; simp [valCells])
    rw [Addr.add_lit, Nat.zero_add] at h3
    exact h3
  have s1 : w.cell? ⟨sg, r.length * 2 + 1, none⟩ = some (.int .i64 xb) := by
    have h3 := hv2.cells rfl (r.length * 2 + 1) (.int .i64 xb) (by rw [List.getElem?_append_right (by rw [valRow_length]; omega), valRow_length]; simp [valCells])
    rw [Addr.add_lit, Nat.zero_add] at h3
    exact h3
  have hpop : w.ownsRow K 106 2 (.slice (some ⟨sg, 0, none⟩) r.length c) r.length (valRow r) := by
    have h3 := own_pop2 hv2 (k := r.length) (by omega) (by omega)
    rwa [List.take_left' (by rw [valRow_length])] at h3
  have HV := Lib.hid hpop
  have HS := Lib.hid hs
  rw [hl] at hlc hh hv ⊢
  have hlc1 : ((r.length + 1 : Nat) : Int) ≤ c := by omega
  have hlc2 : (c : Int) ≤ 9223372036854775807 := by omega
  have hlc4 : (r.length : Int) ≤ 1000000 := by omega
  have hlc5 : (r.length : Int) + 1 ≤ c := by omega
  have hlc6 : (r.length : Int) ≤ c := by omega
  have hgw := h.gw
  have hcw := h.cw
  have hkK : M.K ≤ M.g := h.kg
  have hgw1 : M.g < w.heap.size + 1 := by omega
  have hgw2 : M.g < w.heap.size + 1 + 1 := by omega
  have hgw3 : M.g < w.heap.size + 1 + 1 + 1 := by omega
  have hgn0 : ¬ M.g = w.heap.size := by omega
  have hgn1 : ¬ M.g = w.heap.size + 1 := by omega
  have hgn2 : ¬ M.g = w.heap.size + 1 + 1 := by omega
  have hcw1 : M.cg < w.heap.size + 1 := by omega
  have hcw2 : M.cg < w.heap.size + 1 + 1 := by omega
  have hcw3 : M.cg < w.heap.size + 1 + 1 + 1 := by omega
  have hsw1 : sg < w.heap.size + 1 := by omega
  have hsw2 : sg < w.heap.size + 1 + 1 := by omega
  have hsw3 : sg < w.heap.size + 1 + 1 + 1 := by omega
  have m4 : w.cell? ⟨M.g, 4, none⟩ = some (.slice (some ⟨M.cg, 0, none⟩) S.cells.length M.cc) := h.cell 4
  have hy := h.at_ (j := a) (x := S.cells.getD a 0) (by rw [List.getD_eq_getElem?_getD, List.getElem?_eq_getElem hac]; rfl)
  obtain ⟨hy1, hy2⟩ := hy
  have hcap := h.cap
  have ha2 : (a : Int) < S.cells.length := by omega
  have hcc1 : (S.cells.length : Int) ≤ M.cc := by omega
  have hcc2 : (M.cc : Int) ≤ 9223372036854775807 := by omega
  have hne1 : ¬ M.g = M.cg := h.ne
  have hne2 : ¬ M.cg = M.g := fun e => h.ne e.symm
  have hne3 : ¬ M.cg = w.heap.size := by omega
  have hne4 : ¬ M.cg = w.heap.size + 1 := by omega
  have hne5 : ¬ M.cg = w.heap.size + 1 + 1 := by omega
  have hne6 : ¬ w.heap.size = M.cg := by omega
  have hne7 : ¬ w.heap.size + 1 + 1 = M.cg := by omega
  generalize S.cells.getD a 0 = y0 at *
  clear hcap
  have HNE := Lib.hid (show ∀ b, (b < K ∨ w.heap.size ≤ b) → (Value.slice (some ⟨sg, 0, none⟩) r.length c).ownBlock ≠ some b from fun b hb e => by have := hpop.lt b e; omega)
  obtain ⟨n, hn⟩ : ∃ n, r.length = n := ⟨_, rfl⟩
  have HN := Lib.hid hn
  rw [hn] at hlc hlc1 hlc4 hlc5 hlc6 hh HNE s0 s1 hpop HV ⊢
  clear h hv hv2 hs hl hn hvc hpop
  go_enter Tryd.func56, Tryd.ntmps56
  go_wp2_with fail
  refine (TK.out _).mono ?_
  rintro e _ ⟨rfl, rfl⟩
  go_wp2_with fail
  go_region_held3 (fun w' => w'.cell? ⟨w.heap.size, 3, none⟩ = some (.int .i64 (a : Int)) ∧ w'.cell? ⟨M.g, 4, none⟩ = some (.slice (some ⟨M.cg, 0, none⟩) S.cells.length M.cc) ∧ w'.cell? ⟨w.heap.size + 1 + 1, 1, none⟩ = some (.int .i64 xb)) (first | exact ⟨(by go_simp), (by go_simp), (by go_simp)⟩ | go_keep) (fail)
  all_goals (try go_wp2_with fail)
  all_goals go_ret2
  all_goals refine ⟨_, rfl, fun _ => ?_, step_set HM.out hKw hac (by repeat (first | (with_reducible exact Below.refl _ _) | (with_reducible refine Below.setCell ?_ (by first | omega | (simp; done) | (simp; omega)) _) | (with_reducible refine Below.drew ?_) | (with_reducible refine below_dN _ ?_) | (with_reducible refine Below.alloc ?_ (by first | omega | (simp; done) | (simp; omega)) _)))⟩
  all_goals (unfold StackAt; rw [show ({ S with stk := r, cells := S.cells.set a xb } : St).stk.length = n from HN.out]; exact row_keep (own_setFar (a := ⟨M.cg, a, none⟩) HV.out (HNE.out M.cg (.inl hc)) (.int .i64 xb)) (by repeat (first | (with_reducible exact Below.refl _ _) | (with_reducible refine Below.setCell ?_ (by first | omega | (simp; done) | (simp; omega)) _) | (with_reducible refine Below.drew ?_) | (with_reducible refine below_dN _ ?_) | (with_reducible refine Below.alloc ?_ (by first | omega | (simp; done) | (simp; omega)) _))))
set_option maxHeartbeats 4000000 in
set_option maxRecDepth 100000 in
theorem rstep_out (M : RWho) (w : World) (S : St) (h : RMach M w S) (K : Nat) (hKw : K ≤ w.heap.size) (hg : M.g < K) (hc : M.cg < K) (v : Value) (hv : StackAt w K v S.stk) (hh : S.stk.length ≤ 1000000) (a0 a1 N : Int) (a : Nat) (r : List (Int × Int)) (kb xb : Int) (hs : S.stk = r ++ [(kb, xb)]) (ha : a < 4) :
    Calls Tryd.prog 56 #[.pointer (some ⟨M.g, 0, none⟩), .agg #[.int .i64 a0, .int .i64 a1, .int .i64 25, .int .i64 (a : Int), .int .i64 N], v] w (StepPost M K w (setOut ({ S with stk := r } : St) (a : Int) xb, 0)) := by
  have hl : S.stk.length = r.length + 1 := by rw [hs]; simp
  obtain ⟨sg, c, hvv, hsg, hsw⟩ := World.ownsRow.form hv (by omega)
  subst hvv
  obtain ⟨_, c', hvc, hlc, hcm⟩ := own_slice hv
  obtain rfl : c = c' := by injection hvc
  unfold maxLen at hcm
  obtain ⟨i0, hi, hz0, hz1, hz2⟩ := info_parts valInfo
  have t22 := valTy
  have TK := Lib.hid (fun u => rtakes_any 25 u)
  rw [show takesN 25 = 1 from rfl] at TK
  have HM := Lib.hid h
  have hv2 : w.ownsRow K 106 2 (.slice (some ⟨sg, 0, none⟩) (r.length + 1) c) (r.length + 1) (valRow r ++ valCells (kb, xb)) := by
    have h2 := hv
    unfold StackAt at h2
    rw [hl, hs, valRow_app] at h2
    exact h2
  have s0 : w.cell? ⟨sg, r.length * 2, none⟩ = some (.int .i64 kb) := by
    have h3 := hv2.cells rfl (r.length * 2) (.int .i64 kb) (by rw [List.getElem?_append_right (by rw [valRow_length]; omega), valRow_length]; simp [valCells])
    rw [Addr.add_lit, Nat.zero_add] at h3
    exact h3
  have s1 : w.cell? ⟨sg, r.length * 2 + 1, none⟩ = some (.int .i64 xb) := by
    have h3 := hv2.cells rfl (r.length * 2 + 1) (.int .i64 xb) (by rw [List.getElem?_append_right (by rw [valRow_length]; omega), valRow_length]; simp [valCells])
    rw [Addr.add_lit, Nat.zero_add] at h3
    exact h3
  have hpop : w.ownsRow K 106 2 (.slice (some ⟨sg, 0, none⟩) r.length c) r.length (valRow r) := by
    have h3 := own_pop2 hv2 (k := r.length) (by omega) (by omega)
    rwa [List.take_left' (by rw [valRow_length])] at h3
  have HV := Lib.hid hpop
  have HS := Lib.hid hs
  rw [hl] at hlc hh hv ⊢
  have hlc1 : ((r.length + 1 : Nat) : Int) ≤ c := by omega
  have hlc2 : (c : Int) ≤ 9223372036854775807 := by omega
  have hlc4 : (r.length : Int) ≤ 1000000 := by omega
  have hlc5 : (r.length : Int) + 1 ≤ c := by omega
  have hlc6 : (r.length : Int) ≤ c := by omega
  have hgw := h.gw
  have hcw := h.cw
  have hkK : M.K ≤ M.g := h.kg
  have hgw1 : M.g < w.heap.size + 1 := by omega
  have hgw2 : M.g < w.heap.size + 1 + 1 := by omega
  have hgw3 : M.g < w.heap.size + 1 + 1 + 1 := by omega
  have hgn0 : ¬ M.g = w.heap.size := by omega
  have hgn1 : ¬ M.g = w.heap.size + 1 := by omega
  have hgn2 : ¬ M.g = w.heap.size + 1 + 1 := by omega
  have hcw1 : M.cg < w.heap.size + 1 := by omega
  have hcw2 : M.cg < w.heap.size + 1 + 1 := by omega
  have hcw3 : M.cg < w.heap.size + 1 + 1 + 1 := by omega
  have hsw1 : sg < w.heap.size + 1 := by omega
  have hsw2 : sg < w.heap.size + 1 + 1 := by omega
  have hsw3 : sg < w.heap.size + 1 + 1 + 1 := by omega
  have ha1 : (a : Int) < 4 := by omega
  have hy1 : ∃ y, w.cell? ⟨M.g, 9 + a, none⟩ = some (.int .i64 y) := by
    rcases (show a = 0 ∨ a = 1 ∨ a = 2 ∨ a = 3 by omega) with rfl | rfl | rfl | rfl
    · exact ⟨_, h.cell 9⟩
    · exact ⟨_, h.cell 10⟩
    · exact ⟨_, h.cell 11⟩
    · exact ⟨_, h.cell 12⟩
  obtain ⟨y0, hy1⟩ := hy1
  have hy2 := h.frozen (9 + a)
  have hne3 : ¬ w.heap.size = M.g := by omega
  have hne5 : ¬ w.heap.size + 1 + 1 = M.g := by omega
  have HNE := Lib.hid (show ∀ b, (b < K ∨ w.heap.size ≤ b) → (Value.slice (some ⟨sg, 0, none⟩) r.length c).ownBlock ≠ some b from fun b hb e => by have := hpop.lt b e; omega)
  obtain ⟨n, hn⟩ : ∃ n, r.length = n := ⟨_, rfl⟩
  have HN := Lib.hid hn
  rw [hn] at hlc hlc1 hlc4 hlc5 hlc6 hh HNE s0 s1 hpop HV ⊢
  clear h hv hv2 hs hl hn hvc hpop
  go_enter Tryd.func56, Tryd.ntmps56
  go_wp2_with fail
  refine (TK.out _).mono ?_
  rintro e _ ⟨rfl, rfl⟩
  go_wp2_with fail
  go_region_held3 (fun w' => w'.cell? ⟨w.heap.size, 3, none⟩ = some (.int .i64 (a : Int)) ∧ w'.cell? ⟨w.heap.size + 1 + 1, 1, none⟩ = some (.int .i64 xb)) (first | exact ⟨(by go_simp), (by go_simp)⟩ | go_keep) (fail)
  all_goals (try go_wp2_with fail)
  all_goals go_ret2
  all_goals refine ⟨_, rfl, fun _ => ?_, step_out HM.out hKw ha (by repeat (first | (with_reducible exact Below.refl _ _) | (with_reducible refine Below.setCell ?_ (by first | omega | (simp; done) | (simp; omega)) _) | (with_reducible refine Below.drew ?_) | (with_reducible refine below_dN _ ?_) | (with_reducible refine Below.alloc ?_ (by first | omega | (simp; done) | (simp; omega)) _)))⟩
  all_goals (unfold StackAt; rw [setOut_stk, show ({ S with stk := r } : St).stk.length = n from HN.out]; exact row_keep (own_setFar (a := ⟨M.g, 9 + a, none⟩) HV.out (HNE.out M.g (.inl hg)) (.int .i64 xb)) (by repeat (first | (with_reducible exact Below.refl _ _) | (with_reducible refine Below.setCell ?_ (by first | omega | (simp; done) | (simp; omega)) _) | (with_reducible refine Below.drew ?_) | (with_reducible refine below_dN _ ?_) | (with_reducible refine Below.alloc ?_ (by first | omega | (simp; done) | (simp; omega)) _))))
end Go.Proofs.YtngobbbinacomaaDoor
