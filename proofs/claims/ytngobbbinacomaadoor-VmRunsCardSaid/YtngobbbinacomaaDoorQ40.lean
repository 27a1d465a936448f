/- Chapter 14: the document's step: LoadX. -/
import Derived.Test.YtngobbbinacomaaDoorQ39
namespace Go.Proofs.YtngobbbinacomaaDoor
open Go.RowKit Go.Proofs.YtngobbbinacomaaDoor.c11 Go.Proofs.YtngobbbinacomaaDoor.c10 Go.Proofs.YtngobbbinacomaaDoor.c13
set_option linter.unusedVariables false
set_option linter.unusedSimpArgs false
attribute [local go_sem ↓] Go.wp_at_zero Go.wp_at_succ
set_option maxHeartbeats 4000000 in
set_option maxRecDepth 100000 in
theorem rstep_loadx_neg (M : RWho) (w : World) (S : St) (h : RMach M w S) (K : Nat) (hKw : K ≤ w.heap.size) (hg : M.g < K) (hc : M.cg < K) (v : Value) (hv : StackAt w K v S.stk) (hh : S.stk.length ≤ 1000000) (a0 a1 N : Int) (a : Nat) (r : List (Int × Int)) (kb xb : Int) (hs : S.stk = r ++ [(kb, xb)]) (ha : a < M.E.lay.length) (hneg : xb < 0) :
    Calls Tryd.prog 56 #[.pointer (some ⟨M.g, 0, none⟩), .agg #[.int .i64 a0, .int .i64 a1, .int .i64 5, .int .i64 (a : Int), .int .i64 N], v] w (StepPost M K w (({ S with stk := r } : St), 22)) := by
  have hl : S.stk.length = r.length + 1 := by rw [hs]; simp
  obtain ⟨sg, c, hvv, hsg, hsw⟩ := World.ownsRow.form hv (by omega)
  subst hvv
  obtain ⟨_, c', hvc, hlc, hcm⟩ := own_slice hv
  obtain rfl : c = c' := by injection hvc
  unfold maxLen at hcm
  obtain ⟨i0, hi, hz0, hz1, hz2⟩ := info_parts valInfo
  have t22 := valTy
  have TK := Lib.hid (fun u => rtakes_any 5 u)
  rw [show takesN 5 = 1 from rfl] at TK
  have HM := Lib.hid h
  have hv2 : w.ownsRow K 106 2 (.slice (some ⟨sg, 0, none⟩) (r.length + 1) c) (r.length + 1) (valRow r ++ valCells (kb, xb)) := by
    have h2 := hv
    unfold StackAt at h2
    rw [hl, hs, valRow_app] at h2
    exact h2
  have s0 : w.cell? ⟨sg, r.length * 2, none⟩ = some (.int .i64 kb) := by
    have h3 := hv2.cells rfl (r.length * 2) (.int .i64 kb) (by rw [List.getElem?_append_right (by rw [valRow_length]; omega), valRow_length]; simp [valCells])
    rw [Addr.add_lit, Nat.zero_add] at h3
    exact h3
  have s1 : w.cell? ⟨sg, r.length * 2 + 1, none⟩ = some (.int .i64 xb) := by
    have h3 := hv2.cells rfl (r.length * 2 + 1) (.int .i64 xb) (by rw [List.getElem?_append_right (by rw [valRow_length]; omega), valRow_length]; simp [valCells])
    rw [Addr.add_lit, Nat.zero_add] at h3
    exact h3
  have hpop : w.ownsRow K 106 2 (.slice (some ⟨sg, 0, none⟩) r.length c) r.length (valRow r) := by
    have h3 := own_pop2 hv2 (k := r.length) (by omega) (by omega)
    rwa [List.take_left' (by rw [valRow_length])] at h3
  have HV := Lib.hid hpop
  have HS := Lib.hid hs
  rw [hl] at hlc hh hv ⊢
  have hlc1 : ((r.length + 1 : Nat) : Int) ≤ c := by omega
  have hlc2 : (c : Int) ≤ 9223372036854775807 := by omega
  have hlc4 : (r.length : Int) ≤ 1000000 := by omega
  have hlc5 : (r.length : Int) + 1 ≤ c := by omega
  have hlc6 : (r.length : Int) ≤ c := by omega
  have hgw := h.gw
  have hcw := h.cw
  have hkK : M.K ≤ M.g := h.kg
  have hgw1 : M.g < w.heap.size + 1 := by omega
  have hgw2 : M.g < w.heap.size + 1 + 1 := by omega
  have hgw3 : M.g < w.heap.size + 1 + 1 + 1 := by omega
  have hgn0 : ¬ M.g = w.heap.size := by omega
  have hgn1 : ¬ M.g = w.heap.size + 1 := by omega
  have hgn2 : ¬ M.g = w.heap.size + 1 + 1 := by omega
  have hcw1 : M.cg < w.heap.size + 1 := by omega
  have hcw2 : M.cg < w.heap.size + 1 + 1 := by omega
  have hcw3 : M.cg < w.heap.size + 1 + 1 + 1 := by omega
  have hsw1 : sg < w.heap.size + 1 := by omega
  have hsw2 : sg < w.heap.size + 1 + 1 := by omega
  have hsw3 : sg < w.heap.size + 1 + 1 + 1 := by omega
  obtain ⟨lb, lo, hLA, ⟨hlb, -⟩, hlc0⟩ := h.stat.lay.2 (by omega)
  have hx1 := hlc0 (a * 6 + 1) _ ((flat_get cellCells 6 cellCells_length M.E.lay a 1 _ (cellD_get ha) (by omega)).trans rfl)
  have hx4 := hlc0 (a * 6 + 4) _ ((flat_get cellCells 6 cellCells_length M.E.lay a 4 _ (cellD_get ha) (by omega)).trans rfl)
  rw [← Nat.add_assoc] at hx1 hx4
  have m3 : w.cell? ⟨M.g, 3, none⟩ = some (.slice (some ⟨lb, lo, none⟩) M.E.lay.length M.E.Lc) := (h.cell 3).trans (by rw [← hLA]; rfl)
  have hll := h.stat.lc
  have ha1 : (a : Int) < M.E.lay.length := by omega
  have hll1 : (M.E.lay.length : Int) ≤ M.E.Lc := by omega
  have hll2 : (M.E.Lc : Int) ≤ 9223372036854775807 := by omega
  have hcbw : lb < w.heap.size := by omega
  have hcbw1 : lb < w.heap.size + 1 := by omega
  have hcbw2 : lb < w.heap.size + 1 + 1 := by omega
  have hcbw3 : lb < w.heap.size + 1 + 1 + 1 := by omega
  generalize hxx : (cellD M.E.lay a).kind = kd at *
  generalize hyy : (cellD M.E.lay a).len = ln at *
  clear hlc0 hLA hll hxx hyy
  have hd : decide (xb < 0) = true := by simpa using hneg
  have HNE := Lib.hid (show ∀ b, (b < K ∨ w.heap.size ≤ b) → (Value.slice (some ⟨sg, 0, none⟩) r.length c).ownBlock ≠ some b from fun b hb e => by have := hpop.lt b e; omega)
  obtain ⟨n, hn⟩ : ∃ n, r.length = n := ⟨_, rfl⟩
  have HN := Lib.hid hn
  rw [hn] at hlc hlc1 hlc4 hlc5 hlc6 hh HNE s0 s1 hpop HV ⊢
  clear h hv hv2 hs hl hn hvc hpop
  go_enter Tryd.func56, Tryd.ntmps56
  go_wp2_with fail
  refine (TK.out _).mono ?_
  rintro e _ ⟨rfl, rfl⟩
  go_wp2_with fail
  go_quiet (fail)
  go_wp2_with fail
  go_ret2
  exact ⟨_, rfl, fun h => absurd h (show ¬ (22 : Int) = 0 by decide), step_none (S' := { S with stk := r }) HM.out hKw (by repeat (first | (with_reducible exact Below.refl _ _) | (with_reducible refine Below.setCell ?_ (by first | omega | (simp; done) | (simp; omega)) _) | (with_reducible refine Below.drew ?_) | (with_reducible refine below_dN _ ?_) | (with_reducible refine Below.alloc ?_ (by first | omega | (simp; done) | (simp; omega)) _))) ⟨rfl, rfl, rfl, rfl⟩⟩
set_option maxHeartbeats 4000000 in
set_option maxRecDepth 100000 in
theorem rstep_loadx_big (M : RWho) (w : World) (S : St) (h : RMach M w S) (K : Nat) (hKw : K ≤ w.heap.size) (hg : M.g < K) (hc : M.cg < K) (v : Value) (hv : StackAt w K v S.stk) (hh : S.stk.length ≤ 1000000) (a0 a1 N : Int) (a : Nat) (r : List (Int × Int)) (kb xb : Int) (hs : S.stk = r ++ [(kb, xb)]) (ha : a < M.E.lay.length) (hneg : 0 ≤ xb) (hbig : (cellD M.E.lay a).len ≤ xb) :
    Calls Tryd.prog 56 #[.pointer (some ⟨M.g, 0, none⟩), .agg #[.int .i64 a0, .int .i64 a1, .int .i64 5, .int .i64 (a : Int), .int .i64 N], v] w (StepPost M K w (({ S with stk := r } : St), 22)) := by
  have hl : S.stk.length = r.length + 1 := by rw [hs]; simp
  obtain ⟨sg, c, hvv, hsg, hsw⟩ := World.ownsRow.form hv (by omega)
  subst hvv
  obtain ⟨_, c', hvc, hlc, hcm⟩ := own_slice hv
  obtain rfl : c = c' := by injection hvc
  unfold maxLen at hcm
  obtain ⟨i0, hi, hz0, hz1, hz2⟩ := info_parts valInfo
  have t22 := valTy
  have TK := Lib.hid (fun u => rtakes_any 5 u)
  rw [show takesN 5 = 1 from rfl] at TK
  have HM := Lib.hid h
  have hv2 : w.ownsRow K 106 2 (.slice (some ⟨sg, 0, none⟩) (r.length + 1) c) (r.length + 1) (valRow r ++ valCells (kb, xb)) := by
    have h2 := hv
    unfold StackAt at h2
    rw [hl, hs, valRow_app] at h2
    exact h2
  have s0 : w.cell? ⟨sg, r.length * 2, none⟩ = some (.int .i64 kb) := by
    have h3 := hv2.cells rfl (r.length * 2) (.int .i64 kb) (by rw [List.getElem?_append_right (by rw [valRow_length]; omega), valRow_length]; simp [valCells])
    rw [Addr.add_lit, Nat.zero_add] at h3
    exact h3
  have s1 : w.cell? ⟨sg, r.length * 2 + 1, none⟩ = some (.int .i64 xb) := by
    have h3 := hv2.cells rfl (r.length * 2 + 1) (.int .i64 xb) (by rw [List.getElem?_append_right (by rw [valRow_length]; omega), valRow_length]; simp [valCells])
    rw [Addr.add_lit, Nat.zero_add] at h3
    exact h3
  have hpop : w.ownsRow K 106 2 (.slice (some ⟨sg, 0, none⟩) r.length c) r.length (valRow r) := by
    have h3 := own_pop2 hv2 (k := r.length) (by omega) (by omega)
    rwa [List.take_left' (by rw [valRow_length])] at h3
  have HV := Lib.hid hpop
  have HS := Lib.hid hs
  rw [hl] at hlc hh hv ⊢
  have hlc1 : ((r.length + 1 : Nat) : Int) ≤ c := by omega
  have hlc2 : (c : Int) ≤ 9223372036854775807 := by omega
  have hlc4 : (r.length : Int) ≤ 1000000 := by omega
  have hlc5 : (r.length : Int) + 1 ≤ c := by omega
  have hlc6 : (r.length : Int) ≤ c := by omega
  have hgw := h.gw
  have hcw := h.cw
  have hkK : M.K ≤ M.g := h.kg
  have hgw1 : M.g < w.heap.size + 1 := by omega
  have hgw2 : M.g < w.heap.size + 1 + 1 := by omega
  have hgw3 : M.g < w.heap.size + 1 + 1 + 1 := by omega
  have hgn0 : ¬ M.g = w.heap.size := by omega
  have hgn1 : ¬ M.g = w.heap.size + 1 := by omega
  have hgn2 : ¬ M.g = w.heap.size + 1 + 1 := by omega
  have hcw1 : M.cg < w.heap.size + 1 := by omega
  have hcw2 : M.cg < w.heap.size + 1 + 1 := by omega
  have hcw3 : M.cg < w.heap.size + 1 + 1 + 1 := by omega
  have hsw1 : sg < w.heap.size + 1 := by omega
  have hsw2 : sg < w.heap.size + 1 + 1 := by omega
  have hsw3 : sg < w.heap.size + 1 + 1 + 1 := by omega
  obtain ⟨lb, lo, hLA, ⟨hlb, -⟩, hlc0⟩ := h.stat.lay.2 (by omega)
  have hx1 := hlc0 (a * 6 + 1) _ ((flat_get cellCells 6 cellCells_length M.E.lay a 1 _ (cellD_get ha) (by omega)).trans rfl)
  have hx4 := hlc0 (a * 6 + 4) _ ((flat_get cellCells 6 cellCells_length M.E.lay a 4 _ (cellD_get ha) (by omega)).trans rfl)
  rw [← Nat.add_assoc] at hx1 hx4
  have m3 : w.cell? ⟨M.g, 3, none⟩ = some (.slice (some ⟨lb, lo, none⟩) M.E.lay.length M.E.Lc) := (h.cell 3).trans (by rw [← hLA]; rfl)
  have hll := h.stat.lc
  have ha1 : (a : Int) < M.E.lay.length := by omega
  have hll1 : (M.E.lay.length : Int) ≤ M.E.Lc := by omega
  have hll2 : (M.E.Lc : Int) ≤ 9223372036854775807 := by omega
  have hcbw : lb < w.heap.size := by omega
  have hcbw1 : lb < w.heap.size + 1 := by omega
  have hcbw2 : lb < w.heap.size + 1 + 1 := by omega
  have hcbw3 : lb < w.heap.size + 1 + 1 + 1 := by omega
  generalize hxx : (cellD M.E.lay a).kind = kd at *
  generalize hyy : (cellD M.E.lay a).len = ln at *
  clear hlc0 hLA hll hxx hyy
  have hd : decide (xb < 0) = false := by simp; omega
  have hd2 : decide (ln ≤ xb) = true := by simpa using hbig
  have HNE := Lib.hid (show ∀ b, (b < K ∨ w.heap.size ≤ b) → (Value.slice (some ⟨sg, 0, none⟩) r.length c).ownBlock ≠ some b from fun b hb e => by have := hpop.lt b e; omega)
  obtain ⟨n, hn⟩ : ∃ n, r.length = n := ⟨_, rfl⟩
  have HN := Lib.hid hn
  rw [hn] at hlc hlc1 hlc4 hlc5 hlc6 hh HNE s0 s1 hpop HV ⊢
  clear h hv hv2 hs hl hn hvc hpop
  go_enter Tryd.func56, Tryd.ntmps56
  go_wp2_with fail
  refine (TK.out _).mono ?_
  rintro e _ ⟨rfl, rfl⟩
  go_wp2_with fail
  go_quiet (fail)
  go_wp2_with fail
  go_ret2
  exact ⟨_, rfl, fun h => absurd h (show ¬ (22 : Int) = 0 by decide), step_none (S' := { S with stk := r }) HM.out hKw (by repeat (first | (with_reducible exact Below.refl _ _) | (with_reducible refine Below.setCell ?_ (by first | omega | (simp; done) | (simp; omega)) _) | (with_reducible refine Below.drew ?_) | (with_reducible refine below_dN _ ?_) | (with_reducible refine Below.alloc ?_ (by first | omega | (simp; done) | (simp; omega)) _))) ⟨rfl, rfl, rfl, rfl⟩⟩
set_option maxHeartbeats 4000000 in
set_option maxRecDepth 100000 in
theorem rstep_loadx (M : RWho) (w : World) (S : St) (h : RMach M w S) (K : Nat) (hKw : K ≤ w.heap.size) (hg : M.g < K) (hc : M.cg < K) (v : Value) (hv : StackAt w K v S.stk) (hh : S.stk.length ≤ 1000000) (a0 a1 N : Int) (a : Nat) (r : List (Int × Int)) (kb xb : Int) (hs : S.stk = r ++ [(kb, xb)]) (ha : a < M.E.lay.length) (k : Nat) (hk : xb = k) (hlt : (k : Int) < (cellD M.E.lay a).len) (hac : a + k < S.cells.length) :
    Calls Tryd.prog 56 #[.pointer (some ⟨M.g, 0, none⟩), .agg #[.int .i64 a0, .int .i64 a1, .int .i64 5, .int .i64 (a : Int), .int .i64 N], v] w (StepPost M K w (pushS ({ S with stk := r } : St) (cellD M.E.lay a).kind [S.cells.getD (a + k) 0], 0)) := by
  have hl : S.stk.length = r.length + 1 := by rw [hs]; simp
  obtain ⟨sg, c, hvv, hsg, hsw⟩ := World.ownsRow.form hv (by omega)
  subst hvv
  obtain ⟨_, c', hvc, hlc, hcm⟩ := own_slice hv
  obtain rfl : c = c' := by injection hvc
  unfold maxLen at hcm
  obtain ⟨i0, hi, hz0, hz1, hz2⟩ := info_parts valInfo
  have t22 := valTy
  have TK := Lib.hid (fun u => rtakes_any 5 u)
  rw [show takesN 5 = 1 from rfl] at TK
  have HM := Lib.hid h
  have hv2 : w.ownsRow K 106 2 (.slice (some ⟨sg, 0, none⟩) (r.length + 1) c) (r.length + 1) (valRow r ++ valCells (kb, xb)) := by
    have h2 := hv
    unfold StackAt at h2
    rw [hl, hs, valRow_app] at h2
    exact h2
  have s0 : w.cell? ⟨sg, r.length * 2, none⟩ = some (.int .i64 kb) := by
    have h3 := hv2.cells rfl (r.length * 2) (.int .i64 kb) (by rw [List.getElem?_append_right (by rw [valRow_length]; omega), valRow_length]; simp [valCells])
    rw [Addr.add_lit, Nat.zero_add] at h3
    exact h3
  have s1 : w.cell? ⟨sg, r.length * 2 + 1, none⟩ = some (.int .i64 xb) := by
    have h3 := hv2.cells rfl (r.length * 2 + 1) (.int .i64 xb) (by rw [List.getElem?_append_right (by rw [valRow_length]; omega), valRow_length]; simp [valCells])
    rw [Addr.add_lit, Nat.zero_add] at h3
    exact h3
  have hpop : w.ownsRow K 106 2 (.slice (some ⟨sg, 0, none⟩) r.length c) r.length (valRow r) := by
    have h3 := own_pop2 hv2 (k := r.length) (by omega) (by omega)
    rwa [List.take_left' (by rw [valRow_length])] at h3
  have HV := Lib.hid hpop
  have HS := Lib.hid hs
  rw [hl] at hlc hh hv ⊢
  have hlc1 : ((r.length + 1 : Nat) : Int) ≤ c := by omega
  have hlc2 : (c : Int) ≤ 9223372036854775807 := by omega
  have hlc4 : (r.length : Int) ≤ 1000000 := by omega
  have hlc5 : (r.length : Int) + 1 ≤ c := by omega
  have hlc6 : (r.length : Int) ≤ c := by omega
  have hgw := h.gw
  have hcw := h.cw
  have hkK : M.K ≤ M.g := h.kg
  have hgw1 : M.g < w.heap.size + 1 := by omega
  have hgw2 : M.g < w.heap.size + 1 + 1 := by omega
  have hgw3 : M.g < w.heap.size + 1 + 1 + 1 := by omega
  have hgn0 : ¬ M.g = w.heap.size := by omega
  have hgn1 : ¬ M.g = w.heap.size + 1 := by omega
  have hgn2 : ¬ M.g = w.heap.size + 1 + 1 := by omega
  have hcw1 : M.cg < w.heap.size + 1 := by omega
  have hcw2 : M.cg < w.heap.size + 1 + 1 := by omega
  have hcw3 : M.cg < w.heap.size + 1 + 1 + 1 := by omega
  have hsw1 : sg < w.heap.size + 1 := by omega
  have hsw2 : sg < w.heap.size + 1 + 1 := by omega
  have hsw3 : sg < w.heap.size + 1 + 1 + 1 := by omega
  obtain ⟨lb, lo, hLA, ⟨hlb, -⟩, hlc0⟩ := h.stat.lay.2 (by omega)
  have hx1 := hlc0 (a * 6 + 1) _ ((flat_get cellCells 6 cellCells_length M.E.lay a 1 _ (cellD_get ha) (by omega)).trans rfl)
  have hx4 := hlc0 (a * 6 + 4) _ ((flat_get cellCells 6 cellCells_length M.E.lay a 4 _ (cellD_get ha) (by omega)).trans rfl)
  rw [← Nat.add_assoc] at hx1 hx4
  have m3 : w.cell? ⟨M.g, 3, none⟩ = some (.slice (some ⟨lb, lo, none⟩) M.E.lay.length M.E.Lc) := (h.cell 3).trans (by rw [← hLA]; rfl)
  have hll := h.stat.lc
  have ha1 : (a : Int) < M.E.lay.length := by omega
  have hll1 : (M.E.lay.length : Int) ≤ M.E.Lc := by omega
  have hll2 : (M.E.Lc : Int) ≤ 9223372036854775807 := by omega
  have hcbw : lb < w.heap.size := by omega
  have hcbw1 : lb < w.heap.size + 1 := by omega
  have hcbw2 : lb < w.heap.size + 1 + 1 := by omega
  have hcbw3 : lb < w.heap.size + 1 + 1 + 1 := by omega
  generalize hxx : (cellD M.E.lay a).kind = kd at *
  generalize hyy : (cellD M.E.lay a).len = ln at *
  clear hlc0 hLA hll hxx hyy
  subst hk
  have m4 : w.cell? ⟨M.g, 4, none⟩ = some (.slice (some ⟨M.cg, 0, none⟩) S.cells.length M.cc) := h.cell 4
  have hy := (h.at_ (j := a + k) (x := S.cells.getD (a + k) 0) (by rw [List.getD_eq_getElem?_getD, List.getElem?_eq_getElem hac]; rfl)).1
  have hcap := h.cap
  have hcl := h.cells
  have ha2 : (a : Int) + k < S.cells.length := by omega
  have hcc1 : (S.cells.length : Int) ≤ M.cc := by omega
  have hcc2 : (M.cc : Int) ≤ 9223372036854775807 := by omega
  have hi1 : IntKind.i64.wrap ((a : Int) + k) = a + k := by simp [IntKind.wrap, IntKind.bits, IntKind.signed]; omega
  have hd : decide ((k : Int) < 0) = false := by simp
  have hd2 : decide (ln ≤ (k : Int)) = false := by simp; omega
  have hk0 : (0 : Int) ≤ k := by omega
  have hak0 : (0 : Int) ≤ (a : Int) + k := by omega
  have hak1 : ¬ (a : Int) + k < 0 := by omega
  have hak2 : ((a : Int) + k).toNat = a + k := by omega
  have hak3 : (a : Int) + k ≤ 1000000 := by omega
  generalize hzz : S.cells.getD (a + k) 0 = x at *
  clear hcap hzz
  have HNE := Lib.hid (show ∀ b, (b < K ∨ w.heap.size ≤ b) → (Value.slice (some ⟨sg, 0, none⟩) r.length c).ownBlock ≠ some b from fun b hb e => by have := hpop.lt b e; omega)
  obtain ⟨n, hn⟩ : ∃ n, r.length = n := ⟨_, rfl⟩
  have HN := Lib.hid hn
  rw [hn] at hlc hlc1 hlc4 hlc5 hlc6 hh HNE s0 s1 hpop HV ⊢
  clear h hv hv2 hs hl hn hvc hpop
  go_enter Tryd.func56, Tryd.ntmps56
  go_wp2_with fail
  refine (TK.out _).mono ?_
  rintro e _ ⟨rfl, rfl⟩
  go_wp2_with fail
  go_quiet (fail)
  go_wp2_with fail
  go_region_held3 (fun w' => w'.cell? ⟨w.heap.size, 3, none⟩ = some (.int .i64 (a : Int)) ∧ w'.cell? ⟨M.g, 3, none⟩ = some (.slice (some ⟨lb, lo, none⟩) M.E.lay.length M.E.Lc) ∧ w'.cell? ⟨M.g, 4, none⟩ = some (.slice (some ⟨M.cg, 0, none⟩) S.cells.length M.cc) ∧ w'.cell? ⟨lb, lo + a * 6 + 1, none⟩ = some (.int .i64 kd) ∧ w'.cell? ⟨M.cg, a + k, none⟩ = some (.int .i64 x) ∧ w'.cell? ⟨w.heap.size + 1 + 1, 1, none⟩ = some (.int .i64 (k : Int))) (first | exact ⟨z0, z1, z2, z3, z4, z5⟩ | exact ⟨(by go_simp), (by go_simp), (by go_simp), (by go_simp), (by go_simp), (by go_simp)⟩ | go_keep)
    ((refine step_append_ownV rfl _ _ 102 rfl K 106 i0 _ 2 16 t22 hi hz0 hz1 hz2 rfl (by decide) (.slice (some ⟨sg, 0, none⟩) n c) n (valRow r) rfl (row_keep HV.out (by repeat (first | (with_reducible exact Below.refl _ _) | (with_reducible refine Below.setCell ?_ (by first | omega | (simp; done) | (simp; omega)) _) | (with_reducible refine Below.drew ?_) | (with_reducible refine below_dN _ ?_) | (with_reducible refine Below.alloc ?_ (by first | omega | (simp; done) | (simp; omega)) _)))) ⟨_, 0, none⟩ 1 1 (valCells (kd, x)) rfl rfl (vals_news (by go_simp) (by go_simp)) (valCells_one _) (by unfold maxLen; omega) (by omega) (by first | omega | (simp; done) | (simp; omega)) ?_; intro v1 w1 hown hgrow hnil; have z0 : w1.cell? ⟨w.heap.size, 3, none⟩ = some (.int .i64 (a : Int)) := grown_cell hgrow (HNE.out _ (by first | omega | (simp; done) | (simp; omega))) (by go_simp); have z1 : w1.cell? ⟨M.g, 3, none⟩ = some (.slice (some ⟨lb, lo, none⟩) M.E.lay.length M.E.Lc) := grown_cell hgrow (HNE.out _ (by first | omega | (simp; done) | (simp; omega))) (by go_simp); have z2 : w1.cell? ⟨M.g, 4, none⟩ = some (.slice (some ⟨M.cg, 0, none⟩) S.cells.length M.cc) := grown_cell hgrow (HNE.out _ (by first | omega | (simp; done) | (simp; omega))) (by go_simp); have z3 : w1.cell? ⟨lb, lo + a * 6 + 1, none⟩ = some (.int .i64 kd) := grown_cell hgrow (HNE.out _ (by first | omega | (simp; done) | (simp; omega))) (by go_simp); have z4 : w1.cell? ⟨M.cg, a + k, none⟩ = some (.int .i64 x) := grown_cell hgrow (HNE.out _ (by first | omega | (simp; done) | (simp; omega))) (by go_simp); have z5 : w1.cell? ⟨w.heap.size + 1 + 1, 1, none⟩ = some (.int .i64 (k : Int)) := grown_cell hgrow (HNE.out _ (by first | omega | (simp; done) | (simp; omega))) (by go_simp); have hsa := step_app (S' := pushS ({ S with stk := r } : St) (kd) [x]) HM.out (fun k hk => (HV.out.lt k hk).1) hKw hg hc (by repeat (first | (with_reducible exact Below.refl _ _) | (with_reducible refine Below.setCell ?_ (by first | omega | (simp; done) | (simp; omega)) _) | (with_reducible refine Below.drew ?_) | (with_reducible refine below_dN _ ?_) | (with_reducible refine Below.alloc ?_ (by first | omega | (simp; done) | (simp; omega)) _))) hgrow ⟨rfl, rfl, rfl, rfl⟩; obtain ⟨A1, C1, rfl, _, _⟩ := own_slice hown; have HSA := Lib.hid hsa; have HO1 := Lib.hid hown; clear hown hgrow hnil hsa))
  all_goals (try go_wp2_with fail)
  all_goals go_ret2
  all_goals (refine ⟨_, rfl, fun _ => ?_, HSA.out.1, HSA.out.2⟩; have h1 := HO1.out; unfold StackAt; rw [show (pushS ({ S with stk := r } : St) (kd) [x]).stk = r ++ [(kd, x)] from rfl, valRow_app, List.length_append, HN.out]; exact h1)
end Go.Proofs.YtngobbbinacomaaDoor
