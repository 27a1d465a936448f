/- Chapter 14: the document's step: StoreX, Block. -/
import Derived.Test.YtngobbbinacomaaDoorQ41
namespace Go.Proofs.YtngobbbinacomaaDoor
open Go.RowKit Go.Proofs.YtngobbbinacomaaDoor.c11 Go.Proofs.YtngobbbinacomaaDoor.c10 Go.Proofs.YtngobbbinacomaaDoor.c13
set_option linter.unusedVariables false
set_option linter.unusedSimpArgs false
attribute [local go_sem ↓] Go.wp_at_zero Go.wp_at_succ
theorem step_setN {M : RWho} {K : Nat} {w wa : World} {S : St} {r : List (Int × Int)} {a : Nat} {xb : Int} (h : RMach M w S) (hKw : K ≤ w.heap.size) (ha : a < S.cells.length) (hba : Below w.heap.size w wa) :
    RMach M (wa.setCell ⟨M.cg, a, none⟩ (.int .i64 xb)) { S with stk := r, cells := S.cells.set a xb } ∧ RFr M K w (wa.setCell ⟨M.cg, a, none⟩ (.int .i64 xb)) :=
  ⟨((h.below hba).setC ha xb).stk r, ((RFr.refl M K w).below hba hKw).setC _ _⟩
set_option maxHeartbeats 4000000 in
set_option maxRecDepth 100000 in
theorem rstep_storex_neg (M : RWho) (w : World) (S : St) (h : RMach M w S) (K : Nat) (hKw : K ≤ w.heap.size) (hg : M.g < K) (hc : M.cg < K) (v : Value) (hv : StackAt w K v S.stk) (hh : S.stk.length ≤ 1000000) (a0 a1 N : Int) (a : Nat) (r : List (Int × Int)) (ka xa kb xb : Int) (hs : S.stk = r ++ [(ka, xa), (kb, xb)]) (ha : a < M.E.lay.length) (hneg : xa < 0) :
    Calls Tryd.prog 56 #[.pointer (some ⟨M.g, 0, none⟩), .agg #[.int .i64 a0, .int .i64 a1, .int .i64 6, .int .i64 (a : Int), .int .i64 N], v] w (StepPost M K w (({ S with stk := r } : St), 22)) := by
  have hl : S.stk.length = r.length + 2 := by rw [hs]; simp
  obtain ⟨sg, c, hvv, hsg, hsw⟩ := World.ownsRow.form hv (by omega)
  subst hvv
  obtain ⟨_, c', hvc, hlc, hcm⟩ := own_slice hv
  obtain rfl : c = c' := by injection hvc
  unfold maxLen at hcm
  obtain ⟨i0, hi, hz0, hz1, hz2⟩ := info_parts valInfo
  have t22 := valTy
  have TK := Lib.hid (fun u => rtakes_any 6 u)
  rw [show takesN 6 = 2 from rfl] at TK
  have HM := Lib.hid h
  have hv2 : w.ownsRow K 106 2 (.slice (some ⟨sg, 0, none⟩) (r.length + 2) c) (r.length + 2) (valRow r ++ (valCells (ka, xa) ++ valCells (kb, xb))) := by
    have h2 := hv
    unfold StackAt at h2
    rw [hl, hs, valRow_app] at h2
    exact h2
  have s0 : w.cell? ⟨sg, r.length * 2, none⟩ = some (.int .i64 ka) := by
    have h3 := hv2.cells rfl (r.length * 2) (.int .i64 ka) (by rw [List.getElem?_append_right (by rw [valRow_length]; omega), valRow_length]; simp [valCells])
    rw [Addr.add_lit, Nat.zero_add] at h3
    exact h3
  have s1 : w.cell? ⟨sg, r.length * 2 + 1, none⟩ = some (.int .i64 xa) := by
    have h3 := hv2.cells rfl (r.length * 2 + 1) (.int .i64 xa) (by rw [List.getElem?_append_right (by rw [valRow_length]; omega), valRow_length]; simp [valCells])
    rw [Addr.add_lit, Nat.zero_add] at h3
    exact h3
  have s2 : w.cell? ⟨sg, r.length * 2 + 2, none⟩ = some (.int .i64 kb) := by
    have h3 := hv2.cells rfl (r.length * 2 + 2) (.int .i64 kb) (by rw [List.getElem?_append_right (by rw [valRow_length]; omega), valRow_length]; simp [valCells])
    rw [Addr.add_lit, Nat.zero_add] at h3
    exact h3
  have s3 : w.cell? ⟨sg, r.length * 2 + 3, none⟩ = some (.int .i64 xb) := by
    have h3 := hv2.cells rfl (r.length * 2 + 3) (.int .i64 xb) (by rw [List.getElem?_append_right (by rw [valRow_length]; omega), valRow_length]; simp [valCells])
    rw [Addr.add_lit, Nat.zero_add] at h3
    exact h3
  have s4 : w.cell? ⟨sg, (r.length + 1) * 2, none⟩ = some (.int .i64 kb) := by rw [show (r.length + 1) * 2 = r.length * 2 + 2 by omega]; exact s2
  have s5 : w.cell? ⟨sg, (r.length + 1) * 2 + 1, none⟩ = some (.int .i64 xb) := by rw [show (r.length + 1) * 2 + 1 = r.length * 2 + 3 by omega]; exact s3
  have hpop : w.ownsRow K 106 2 (.slice (some ⟨sg, 0, none⟩) r.length c) r.length (valRow r) := by
    have h3 := own_pop2 hv2 (k := r.length) (by omega) (by omega)
    rwa [List.take_left' (by rw [valRow_length])] at h3
  have HV := Lib.hid hpop
  have HS := Lib.hid hs
  rw [hl] at hlc hh hv ⊢
  have hlc1 : ((r.length + 2 : Nat) : Int) ≤ c := by omega
  have hlc2 : (c : Int) ≤ 9223372036854775807 := by omega
  have hlc4 : (r.length : Int) ≤ 1000000 := by omega
  have hlc5 : (r.length : Int) + 2 ≤ c := by omega
  have hlc7 : (r.length : Int) + 1 ≤ c := by omega
  have hlc6 : (r.length : Int) ≤ c := by omega
  have hgw := h.gw
  have hcw := h.cw
  have hkK : M.K ≤ M.g := h.kg
  have hgw1 : M.g < w.heap.size + 1 := by omega
  have hgw2 : M.g < w.heap.size + 1 + 1 := by omega
  have hgw3 : M.g < w.heap.size + 1 + 1 + 1 := by omega
  have hgn0 : ¬ M.g = w.heap.size := by omega
  have hgn1 : ¬ M.g = w.heap.size + 1 := by omega
  have hgn2 : ¬ M.g = w.heap.size + 1 + 1 := by omega
  have hcw1 : M.cg < w.heap.size + 1 := by omega
  have hcw2 : M.cg < w.heap.size + 1 + 1 := by omega
  have hcw3 : M.cg < w.heap.size + 1 + 1 + 1 := by omega
  have hsw1 : sg < w.heap.size + 1 := by omega
  have hsw2 : sg < w.heap.size + 1 + 1 := by omega
  have hsw3 : sg < w.heap.size + 1 + 1 + 1 := by omega
  obtain ⟨lb, lo, hLA, ⟨hlb, -⟩, hlc0⟩ := h.stat.lay.2 (by omega)
  have hx1 := hlc0 (a * 6 + 1) _ ((flat_get cellCells 6 cellCells_length M.E.lay a 1 _ (cellD_get ha) (by omega)).trans rfl)
  have hx4 := hlc0 (a * 6 + 4) _ ((flat_get cellCells 6 cellCells_length M.E.lay a 4 _ (cellD_get ha) (by omega)).trans rfl)
  rw [← Nat.add_assoc] at hx1 hx4
  have m3 : w.cell? ⟨M.g, 3, none⟩ = some (.slice (some ⟨lb, lo, none⟩) M.E.lay.length M.E.Lc) := (h.cell 3).trans (by rw [← hLA]; rfl)
  have hll := h.stat.lc
  have ha1 : (a : Int) < M.E.lay.length := by omega
  have hll1 : (M.E.lay.length : Int) ≤ M.E.Lc := by omega
  have hll2 : (M.E.Lc : Int) ≤ 9223372036854775807 := by omega
  have hcbw : lb < w.heap.size := by omega
  have hcbw1 : lb < w.heap.size + 1 := by omega
  have hcbw2 : lb < w.heap.size + 1 + 1 := by omega
  have hcbw3 : lb < w.heap.size + 1 + 1 + 1 := by omega
  generalize hxx : (cellD M.E.lay a).kind = kd at *
  generalize hyy : (cellD M.E.lay a).len = ln at *
  clear hlc0 hLA hll hxx hyy
  have hd : decide (xa < 0) = true := by simpa using hneg
  have HNE := Lib.hid (show ∀ b, (b < K ∨ w.heap.size ≤ b) → (Value.slice (some ⟨sg, 0, none⟩) r.length c).ownBlock ≠ some b from fun b hb e => by have := hpop.lt b e; omega)
  obtain ⟨n, hn⟩ : ∃ n, r.length = n := ⟨_, rfl⟩
  have HN := Lib.hid hn
  rw [hn] at hlc hlc1 hlc4 hlc5 hlc6 hlc7 hh HNE s0 s1 s2 s3 s4 s5 hpop HV ⊢
  clear h hv hv2 hs hl hn hvc hpop
  go_enter Tryd.func56, Tryd.ntmps56
  go_wp2_with fail
  refine (TK.out _).mono ?_
  rintro e _ ⟨rfl, rfl⟩
  go_wp2_with fail
  go_quiet (fail)
  go_wp2_with fail
  go_ret2
  exact ⟨_, rfl, fun h => absurd h (show ¬ (22 : Int) = 0 by decide), step_none (S' := { S with stk := r }) HM.out hKw (by repeat (first | (with_reducible exact Below.refl _ _) | (with_reducible refine Below.setCell ?_ (by first | omega | (simp; done) | (simp; omega)) _) | (with_reducible refine Below.drew ?_) | (with_reducible refine below_dN _ ?_) | (with_reducible refine Below.alloc ?_ (by first | omega | (simp; done) | (simp; omega)) _))) ⟨rfl, rfl, rfl, rfl⟩⟩
set_option maxHeartbeats 4000000 in
set_option maxRecDepth 100000 in
theorem rstep_storex_big (M : RWho) (w : World) (S : St) (h : RMach M w S) (K : Nat) (hKw : K ≤ w.heap.size) (hg : M.g < K) (hc : M.cg < K) (v : Value) (hv : StackAt w K v S.stk) (hh : S.stk.length ≤ 1000000) (a0 a1 N : Int) (a : Nat) (r : List (Int × Int)) (ka xa kb xb : Int) (hs : S.stk = r ++ [(ka, xa), (kb, xb)]) (ha : a < M.E.lay.length) (hneg : 0 ≤ xa) (hbig : (cellD M.E.lay a).len ≤ xa) :
    Calls Tryd.prog 56 #[.pointer (some ⟨M.g, 0, none⟩), .agg #[.int .i64 a0, .int .i64 a1, .int .i64 6, .int .i64 (a : Int), .int .i64 N], v] w (StepPost M K w (({ S with stk := r } : St), 22)) := by
  have hl : S.stk.length = r.length + 2 := by rw [hs]; simp
  obtain ⟨sg, c, hvv, hsg, hsw⟩ := World.ownsRow.form hv (by omega)
  subst hvv
  obtain ⟨_, c', hvc, hlc, hcm⟩ := own_slice hv
  obtain rfl : c = c' := by injection hvc
  unfold maxLen at hcm
  obtain ⟨i0, hi, hz0, hz1, hz2⟩ := info_parts valInfo
  have t22 := valTy
  have TK := Lib.hid (fun u => rtakes_any 6 u)
  rw [show takesN 6 = 2 from rfl] at TK
  have HM := Lib.hid h
  have hv2 : w.ownsRow K 106 2 (.slice (some ⟨sg, 0, none⟩) (r.length + 2) c) (r.length + 2) (valRow r ++ (valCells (ka, xa) ++ valCells (kb, xb))) := by
    have h2 := hv
    unfold StackAt at h2
    rw [hl, hs, valRow_app] at h2
    exact h2
  have s0 : w.cell? ⟨sg, r.length * 2, none⟩ = some (.int .i64 ka) := by
    have h3 := hv2.cells rfl (r.length * 2) (.int .i64 ka) (by rw [List.getElem?_append_right (by rw [valRow_length]; omega), valRow_length]; simp [valCells])
    rw [Addr.add_lit, Nat.zero_add] at h3
    exact h3
  have s1 : w.cell? ⟨sg, r.length * 2 + 1, none⟩ = some (.int .i64 xa) := by
    have h3 := hv2.cells rfl (r.length * 2 + 1) (.int .i64 xa) (by rw [List.getElem?_append_right (by rw [valRow_length]; omega), valRow_length]; simp [valCells])
    rw [Addr.add_lit, Nat.zero_add] at h3
    exact h3
  have s2 : w.cell? ⟨sg, r.length * 2 + 2, none⟩ = some (.int .i64 kb) := by
    have h3 := hv2.cells rfl (r.length * 2 + 2) (.int .i64 kb) (by rw [List.getElem?_append_right (by rw [valRow_length]; omega), valRow_length]; simp [valCells])
    rw [Addr.add_lit, Nat.zero_add] at h3
    exact h3
  have s3 : w.cell? ⟨sg, r.length * 2 + 3, none⟩ = some (.int .i64 xb) := by
    have h3 := hv2.cells rfl (r.length * 2 + 3) (.int .i64 xb) (by rw [List.getElem?_append_right (by rw [valRow_length]; omega), valRow_length]; simp [valCells])
    rw [Addr.add_lit, Nat.zero_add] at h3
    exact h3
  have s4 : w.cell? ⟨sg, (r.length + 1) * 2, none⟩ = some (.int .i64 kb) := by rw [show (r.length + 1) * 2 = r.length * 2 + 2 by omega]; exact s2
  have s5 : w.cell? ⟨sg, (r.length + 1) * 2 + 1, none⟩ = some (.int .i64 xb) := by rw [show (r.length + 1) * 2 + 1 = r.length * 2 + 3 by omega]; exact s3
  have hpop : w.ownsRow K 106 2 (.slice (some ⟨sg, 0, none⟩) r.length c) r.length (valRow r) := by
    have h3 := own_pop2 hv2 (k := r.length) (by omega) (by omega)
    rwa [List.take_left' (by rw [valRow_length])] at h3
  have HV := Lib.hid hpop
  have HS := Lib.hid hs
  rw [hl] at hlc hh hv ⊢
  have hlc1 : ((r.length + 2 : Nat) : Int) ≤ c := by omega
  have hlc2 : (c : Int) ≤ 9223372036854775807 := by omega
  have hlc4 : (r.length : Int) ≤ 1000000 := by omega
  have hlc5 : (r.length : Int) + 2 ≤ c := by omega
  have hlc7 : (r.length : Int) + 1 ≤ c := by omega
  have hlc6 : (r.length : Int) ≤ c := by omega
  have hgw := h.gw
  have hcw := h.cw
  have hkK : M.K ≤ M.g := h.kg
  have hgw1 : M.g < w.heap.size + 1 := by omega
  have hgw2 : M.g < w.heap.size + 1 + 1 := by omega
  have hgw3 : M.g < w.heap.size + 1 + 1 + 1 := by omega
  have hgn0 : ¬ M.g = w.heap.size := by omega
  have hgn1 : ¬ M.g = w.heap.size + 1 := by omega
  have hgn2 : ¬ M.g = w.heap.size + 1 + 1 := by omega
  have hcw1 : M.cg < w.heap.size + 1 := by omega
  have hcw2 : M.cg < w.heap.size + 1 + 1 := by omega
  have hcw3 : M.cg < w.heap.size + 1 + 1 + 1 := by omega
  have hsw1 : sg < w.heap.size + 1 := by omega
  have hsw2 : sg < w.heap.size + 1 + 1 := by omega
  have hsw3 : sg < w.heap.size + 1 + 1 + 1 := by omega
  obtain ⟨lb, lo, hLA, ⟨hlb, -⟩, hlc0⟩ := h.stat.lay.2 (by omega)
  have hx1 := hlc0 (a * 6 + 1) _ ((flat_get cellCells 6 cellCells_length M.E.lay a 1 _ (cellD_get ha) (by omega)).trans rfl)
  have hx4 := hlc0 (a * 6 + 4) _ ((flat_get cellCells 6 cellCells_length M.E.lay a 4 _ (cellD_get ha) (by omega)).trans rfl)
  rw [← Nat.add_assoc] at hx1 hx4
  have m3 : w.cell? ⟨M.g, 3, none⟩ = some (.slice (some ⟨lb, lo, none⟩) M.E.lay.length M.E.Lc) := (h.cell 3).trans (by rw [← hLA]; rfl)
  have hll := h.stat.lc
  have ha1 : (a : Int) < M.E.lay.length := by omega
  have hll1 : (M.E.lay.length : Int) ≤ M.E.Lc := by omega
  have hll2 : (M.E.Lc : Int) ≤ 9223372036854775807 := by omega
  have hcbw : lb < w.heap.size := by omega
  have hcbw1 : lb < w.heap.size + 1 := by omega
  have hcbw2 : lb < w.heap.size + 1 + 1 := by omega
  have hcbw3 : lb < w.heap.size + 1 + 1 + 1 := by omega
  generalize hxx : (cellD M.E.lay a).kind = kd at *
  generalize hyy : (cellD M.E.lay a).len = ln at *
  clear hlc0 hLA hll hxx hyy
  have hd : decide (xa < 0) = false := by simp; omega
  have hd2 : decide (ln ≤ xa) = true := by simpa using hbig
  have HNE := Lib.hid (show ∀ b, (b < K ∨ w.heap.size ≤ b) → (Value.slice (some ⟨sg, 0, none⟩) r.length c).ownBlock ≠ some b from fun b hb e => by have := hpop.lt b e; omega)
  obtain ⟨n, hn⟩ : ∃ n, r.length = n := ⟨_, rfl⟩
  have HN := Lib.hid hn
  rw [hn] at hlc hlc1 hlc4 hlc5 hlc6 hlc7 hh HNE s0 s1 s2 s3 s4 s5 hpop HV ⊢
  clear h hv hv2 hs hl hn hvc hpop
  go_enter Tryd.func56, Tryd.ntmps56
  go_wp2_with fail
  refine (TK.out _).mono ?_
  rintro e _ ⟨rfl, rfl⟩
  go_wp2_with fail
  go_quiet (fail)
  go_wp2_with fail
  go_ret2
  exact ⟨_, rfl, fun h => absurd h (show ¬ (22 : Int) = 0 by decide), step_none (S' := { S with stk := r }) HM.out hKw (by repeat (first | (with_reducible exact Below.refl _ _) | (with_reducible refine Below.setCell ?_ (by first | omega | (simp; done) | (simp; omega)) _) | (with_reducible refine Below.drew ?_) | (with_reducible refine below_dN _ ?_) | (with_reducible refine Below.alloc ?_ (by first | omega | (simp; done) | (simp; omega)) _))) ⟨rfl, rfl, rfl, rfl⟩⟩
set_option maxHeartbeats 4000000 in
set_option maxRecDepth 100000 in
theorem rstep_storex (M : RWho) (w : World) (S : St) (h : RMach M w S) (K : Nat) (hKw : K ≤ w.heap.size) (hg : M.g < K) (hc : M.cg < K) (v : Value) (hv : StackAt w K v S.stk) (hh : S.stk.length ≤ 1000000) (a0 a1 N : Int) (a : Nat) (r : List (Int × Int)) (ka xa kb xb : Int) (hs : S.stk = r ++ [(ka, xa), (kb, xb)]) (ha : a < M.E.lay.length) (k : Nat) (hk : xa = k) (hlt : (k : Int) < (cellD M.E.lay a).len) (hac : a + k < S.cells.length) :
    Calls Tryd.prog 56 #[.pointer (some ⟨M.g, 0, none⟩), .agg #[.int .i64 a0, .int .i64 a1, .int .i64 6, .int .i64 (a : Int), .int .i64 N], v] w (StepPost M K w (({ S with stk := r, cells := S.cells.set (a + k) xb } : St), 0)) := by
  have hl : S.stk.length = r.length + 2 := by rw [hs]; simp
  obtain ⟨sg, c, hvv, hsg, hsw⟩ := World.ownsRow.form hv (by omega)
  subst hvv
  obtain ⟨_, c', hvc, hlc, hcm⟩ := own_slice hv
  obtain rfl : c = c' := by injection hvc
  unfold maxLen at hcm
  obtain ⟨i0, hi, hz0, hz1, hz2⟩ := info_parts valInfo
  have t22 := valTy
  have TK := Lib.hid (fun u => rtakes_any 6 u)
  rw [show takesN 6 = 2 from rfl] at TK
  have HM := Lib.hid h
  have hv2 : w.ownsRow K 106 2 (.slice (some ⟨sg, 0, none⟩) (r.length + 2) c) (r.length + 2) (valRow r ++ (valCells (ka, xa) ++ valCells (kb, xb))) := by
    have h2 := hv
    unfold StackAt at h2
    rw [hl, hs, valRow_app] at h2
    exact h2
  have s0 : w.cell? ⟨sg, r.length * 2, none⟩ = some (.int .i64 ka) := by
    have h3 := hv2.cells rfl (r.length * 2) (.int .i64 ka) (by rw [List.getElem?_append_right (by rw [valRow_length]; omega), valRow_length]; simp [valCells])
    rw [Addr.add_lit, Nat.zero_add] at h3
    exact h3
  have s1 : w.cell? ⟨sg, r.length * 2 + 1, none⟩ = some (.int .i64 xa) := by
    have h3 := hv2.cells rfl (r.length * 2 + 1) (.int .i64 xa) (by rw [List.getElem?_append_right (by rw [valRow_length]; omega), valRow_length]; simp [valCells])
    rw [Addr.add_lit, Nat.zero_add] at h3
    exact h3
  have s2 : w.cell? ⟨sg, r.length * 2 + 2, none⟩ = some (.int .i64 kb) := by
    have h3 := hv2.cells rfl (r.length * 2 + 2) (.int .i64 kb) (by rw [List.getElem?_append_right (by rw [valRow_length]; omega), valRow_length]; simp [valCells])
    rw [Addr.add_lit, Nat.zero_add] at h3
    exact h3
  have s3 : w.cell? ⟨sg, r.length * 2 + 3, none⟩ = some (.int .i64 xb) := by
    have h3 := hv2.cells rfl (r.length * 2 + 3) (.int .i64 xb) (by rw [List.getElem?_append_right (by rw [valRow_length]; omega), valRow_length]; simp [valCells])
    rw [Addr.add_lit, Nat.zero_add] at h3
    exact h3
  have s4 : w.cell? ⟨sg, (r.length + 1) * 2, none⟩ = some (.int .i64 kb) := by rw [show (r.length + 1) * 2 = r.length * 2 + 2 by omega]; exact s2
  have s5 : w.cell? ⟨sg, (r.length + 1) * 2 + 1, none⟩ = some (.int .i64 xb) := by rw [show (r.length + 1) * 2 + 1 = r.length * 2 + 3 by omega]; exact s3
  have hpop : w.ownsRow K 106 2 (.slice (some ⟨sg, 0, none⟩) r.length c) r.length (valRow r) := by
    have h3 := own_pop2 hv2 (k := r.length) (by omega) (by omega)
    rwa [List.take_left' (by rw [valRow_length])] at h3
  have HV := Lib.hid hpop
  have HS := Lib.hid hs
  rw [hl] at hlc hh hv ⊢
  have hlc1 : ((r.length + 2 : Nat) : Int) ≤ c := by omega
  have hlc2 : (c : Int) ≤ 9223372036854775807 := by omega
  have hlc4 : (r.length : Int) ≤ 1000000 := by omega
  have hlc5 : (r.length : Int) + 2 ≤ c := by omega
  have hlc7 : (r.length : Int) + 1 ≤ c := by omega
  have hlc6 : (r.length : Int) ≤ c := by omega
  have hgw := h.gw
  have hcw := h.cw
  have hkK : M.K ≤ M.g := h.kg
  have hgw1 : M.g < w.heap.size + 1 := by omega
  have hgw2 : M.g < w.heap.size + 1 + 1 := by omega
  have hgw3 : M.g < w.heap.size + 1 + 1 + 1 := by omega
  have hgn0 : ¬ M.g = w.heap.size := by omega
  have hgn1 : ¬ M.g = w.heap.size + 1 := by omega
  have hgn2 : ¬ M.g = w.heap.size + 1 + 1 := by omega
  have hcw1 : M.cg < w.heap.size + 1 := by omega
  have hcw2 : M.cg < w.heap.size + 1 + 1 := by omega
  have hcw3 : M.cg < w.heap.size + 1 + 1 + 1 := by omega
  have hsw1 : sg < w.heap.size + 1 := by omega
  have hsw2 : sg < w.heap.size + 1 + 1 := by omega
  have hsw3 : sg < w.heap.size + 1 + 1 + 1 := by omega
  obtain ⟨lb, lo, hLA, ⟨hlb, -⟩, hlc0⟩ := h.stat.lay.2 (by omega)
  have hx1 := hlc0 (a * 6 + 1) _ ((flat_get cellCells 6 cellCells_length M.E.lay a 1 _ (cellD_get ha) (by omega)).trans rfl)
  have hx4 := hlc0 (a * 6 + 4) _ ((flat_get cellCells 6 cellCells_length M.E.lay a 4 _ (cellD_get ha) (by omega)).trans rfl)
  rw [← Nat.add_assoc] at hx1 hx4
  have m3 : w.cell? ⟨M.g, 3, none⟩ = some (.slice (some ⟨lb, lo, none⟩) M.E.lay.length M.E.Lc) := (h.cell 3).trans (by rw [← hLA]; rfl)
  have hll := h.stat.lc
  have ha1 : (a : Int) < M.E.lay.length := by omega
  have hll1 : (M.E.lay.length : Int) ≤ M.E.Lc := by omega
  have hll2 : (M.E.Lc : Int) ≤ 9223372036854775807 := by omega
  have hcbw : lb < w.heap.size := by omega
  have hcbw1 : lb < w.heap.size + 1 := by omega
  have hcbw2 : lb < w.heap.size + 1 + 1 := by omega
  have hcbw3 : lb < w.heap.size + 1 + 1 + 1 := by omega
  generalize hxx : (cellD M.E.lay a).kind = kd at *
  generalize hyy : (cellD M.E.lay a).len = ln at *
  clear hlc0 hLA hll hxx hyy
  subst hk
  have m4 : w.cell? ⟨M.g, 4, none⟩ = some (.slice (some ⟨M.cg, 0, none⟩) S.cells.length M.cc) := h.cell 4
  obtain ⟨hy1, hy2⟩ := (h.at_ (j := a + k) (x := S.cells.getD (a + k) 0) (by rw [List.getD_eq_getElem?_getD, List.getElem?_eq_getElem hac]; rfl))
  have hcap := h.cap
  have hcl := h.cells
  have ha2 : (a : Int) + k < S.cells.length := by omega
  have hcc1 : (S.cells.length : Int) ≤ M.cc := by omega
  have hcc2 : (M.cc : Int) ≤ 9223372036854775807 := by omega
  have hi1 : IntKind.i64.wrap ((a : Int) + k) = a + k := by simp [IntKind.wrap, IntKind.bits, IntKind.signed]; omega
  have hd : decide ((k : Int) < 0) = false := by simp
  have hd2 : decide (ln ≤ (k : Int)) = false := by simp; omega
  have hk0 : (0 : Int) ≤ k := by omega
  have hak0 : (0 : Int) ≤ (a : Int) + k := by omega
  have hak1 : ¬ (a : Int) + k < 0 := by omega
  have hak2 : ((a : Int) + k).toNat = a + k := by omega
  have hak3 : (a : Int) + k ≤ 1000000 := by omega
  have hne1 : ¬ M.g = M.cg := h.ne
  have hne2 : ¬ M.cg = M.g := fun e => h.ne e.symm
  have hne3 : ¬ M.cg = w.heap.size := by omega
  have hne4 : ¬ M.cg = w.heap.size + 1 := by omega
  have hne5 : ¬ M.cg = w.heap.size + 1 + 1 := by omega
  have hne6 : ¬ w.heap.size = M.cg := by omega
  have hne7 : ¬ w.heap.size + 1 + 1 = M.cg := by omega
  have hne8 : ¬ w.heap.size + 1 = M.cg := by omega
  generalize hzz : S.cells.getD (a + k) 0 = y0 at *
  clear hcap hzz
  have HNE := Lib.hid (show ∀ b, (b < K ∨ w.heap.size ≤ b) → (Value.slice (some ⟨sg, 0, none⟩) r.length c).ownBlock ≠ some b from fun b hb e => by have := hpop.lt b e; omega)
  obtain ⟨n, hn⟩ : ∃ n, r.length = n := ⟨_, rfl⟩
  have HN := Lib.hid hn
  rw [hn] at hlc hlc1 hlc4 hlc5 hlc6 hlc7 hh HNE s0 s1 s2 s3 s4 s5 hpop HV ⊢
  clear h hv hv2 hs hl hn hvc hpop
  go_enter Tryd.func56, Tryd.ntmps56
  go_wp2_with fail
  refine (TK.out _).mono ?_
  rintro e _ ⟨rfl, rfl⟩
  go_wp2_with fail
  go_quiet (fail)
  go_wp2_with fail
  go_region_held3 (fun w' => w'.cell? ⟨w.heap.size, 3, none⟩ = some (.int .i64 (a : Int)) ∧ w'.cell? ⟨M.g, 4, none⟩ = some (.slice (some ⟨M.cg, 0, none⟩) S.cells.length M.cc) ∧ w'.cell? ⟨w.heap.size + 1, 1, none⟩ = some (.int .i64 (k : Int)) ∧ w'.cell? ⟨w.heap.size + 1 + 1, 1, none⟩ = some (.int .i64 xb)) (first | exact ⟨(by go_simp), (by go_simp), (by go_simp), (by go_simp)⟩ | go_keep) (fail)
  all_goals (try go_wp2_with fail)
  all_goals go_ret2
  all_goals refine ⟨_, rfl, fun _ => ?_, step_setN HM.out hKw hac (by repeat (first | (with_reducible exact Below.refl _ _) | (with_reducible refine Below.setCell ?_ (by first | omega | (simp; done) | (simp; omega)) _) | (with_reducible refine Below.drew ?_) | (with_reducible refine below_dN _ ?_) | (with_reducible refine Below.alloc ?_ (by first | omega | (simp; done) | (simp; omega)) _)))⟩
  all_goals (unfold StackAt; rw [show ({ S with stk := r, cells := S.cells.set (a + k) xb } : St).stk.length = n from HN.out]; exact own_setFar (a := ⟨M.cg, a + k, none⟩) (row_keep HV.out (by repeat (first | (with_reducible exact Below.refl _ _) | (with_reducible refine Below.setCell ?_ (by first | omega | (simp; done) | (simp; omega)) _) | (with_reducible refine Below.drew ?_) | (with_reducible refine below_dN _ ?_) | (with_reducible refine Below.alloc ?_ (by first | omega | (simp; done) | (simp; omega)) _)))) (HNE.out M.cg (.inl hc)) (.int .i64 xb))
set_option maxHeartbeats 4000000 in
set_option maxRecDepth 100000 in
theorem rstep_block (M : RWho) (w : World) (S : St) (h : RMach M w S) (K : Nat) (hKw : K ≤ w.heap.size) (hg : M.g < K) (hc : M.cg < K) (v : Value) (hv : StackAt w K v S.stk) (hh : S.stk.length ≤ 1000000) (a0 a1 N : Int) (a : Nat) (ha : a + 6 ≤ S.cells.length) (hal : a < M.E.lay.length) (hb9 : (cellD M.E.lay a).block = 9 ∨ (cellD M.E.lay a).block = 10) (hl : (cellD M.E.lay a).block = 10 → -9223372036854775808 ≤ S.cells.getD (a + 4) 0) :
    Calls Tryd.prog 56 #[.pointer (some ⟨M.g, 0, none⟩), .agg #[.int .i64 a0, .int .i64 a1, .int .i64 27, .int .i64 (a : Int), .int .i64 N], v] w (StepPost M K w (blockP M.E S a, 0)) := by
  obtain ⟨A, c, rfl, hlc, hcm⟩ := own_slice hv
  unfold maxLen at hcm
  have TK := Lib.hid (fun u => rtakes_any 27 u)
  rw [show takesN 27 = 0 from rfl] at TK
  have BK := Lib.hid (fun u (hb : Below w.heap.size w u) => rblock_any M u S (h.below hb) a ha hal hb9 hl)
  have HM := Lib.hid h
  have HV := Lib.hid hv
  have hlc1 : (S.stk.length : Int) ≤ c := by omega
  have hlc2 : (c : Int) ≤ 9223372036854775807 := by omega
  have hlc3 : ¬ (S.stk.length : Int) < 0 := by omega
  clear h hv hb9 hl
  go_enter Tryd.func56, Tryd.ntmps56
  go_wp2_with fail
  refine (TK.out _).mono ?_
  rintro e _ ⟨rfl, rfl⟩
  go_wp2_with fail
  refine (BK.out _ (by repeat (first | (with_reducible exact Below.refl _ _) | (with_reducible refine Below.setCell ?_ (by first | omega | (simp; done) | (simp; omega)) _) | (with_reducible refine Below.drew ?_) | (with_reducible refine below_dN _ ?_) | (with_reducible refine Below.alloc ?_ (by first | omega | (simp; done) | (simp; omega)) _)))).mono ?_
  rintro e u ⟨rfl, hm, hfr⟩
  have HMU := Lib.hid hm
  have HFU := Lib.hid (((RFr.refl M K w).below (B := w.heap.size) (by repeat (first | (with_reducible exact Below.refl _ _) | (with_reducible refine Below.setCell ?_ (by first | omega | (simp; done) | (simp; omega)) _) | (with_reducible refine Below.drew ?_) | (with_reducible refine below_dN _ ?_) | (with_reducible refine Below.alloc ?_ (by first | omega | (simp; done) | (simp; omega)) _))) hKw).trans (hfr.mono (by simp; omega)))
  have HOW := Lib.hid (own_fr (row_keep HV.out (by repeat (first | (with_reducible exact Below.refl _ _) | (with_reducible refine Below.setCell ?_ (by first | omega | (simp; done) | (simp; omega)) _) | (with_reducible refine Below.drew ?_) | (with_reducible refine below_dN _ ?_) | (with_reducible refine Below.alloc ?_ (by first | omega | (simp; done) | (simp; omega)) _)))) (fun b hb => hfr.block b (by have := (HV.out.lt b hb).2; simp; omega) (fun e => by have := (HV.out.lt b hb).1; omega) (fun e => by have := (HV.out.lt b hb).1; omega)))
  clear hm hfr
  go_wp2_with fail
  go_ret2
  refine ⟨_, rfl, fun _ => ?_, HMU.out, HFU.out⟩
  have hst : (blockP M.E S a).stk = S.stk := by unfold blockP; split <;> rfl
  unfold StackAt
  rw [hst]
  exact HOW.out
end Go.Proofs.YtngobbbinacomaaDoor
