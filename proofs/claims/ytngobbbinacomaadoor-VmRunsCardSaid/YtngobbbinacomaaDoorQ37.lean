/- Chapter 14: the document's step: a cell, an input. -/
import Derived.Test.YtngobbbinacomaaDoorQ36
namespace Go.Proofs.YtngobbbinacomaaDoor
open Go.RowKit Go.Proofs.YtngobbbinacomaaDoor.c11 Go.Proofs.YtngobbbinacomaaDoor.c10 Go.Proofs.YtngobbbinacomaaDoor.c13
set_option linter.unusedVariables false
set_option linter.unusedSimpArgs false
attribute [local go_sem ↓] Go.wp_at_zero Go.wp_at_succ
set_option maxHeartbeats 4000000 in
set_option maxRecDepth 100000 in
theorem rstep_load (M : RWho) (w : World) (S : St) (h : RMach M w S) (K : Nat) (hKw : K ≤ w.heap.size) (hg : M.g < K) (hc : M.cg < K) (v : Value) (hv : StackAt w K v S.stk) (hh : S.stk.length ≤ 1000000) (a0 a1 N : Int) (a : Nat) (ha : a < M.E.lay.length) (hac : a < S.cells.length) :
    Calls Tryd.prog 56 #[.pointer (some ⟨M.g, 0, none⟩), .agg #[.int .i64 a0, .int .i64 a1, .int .i64 3, .int .i64 (a : Int), .int .i64 N], v] w (StepPost M K w (pushS S ((cellD M.E.lay a).kind) [S.cells.getD a 0], 0)) := by
  obtain ⟨A, c, rfl, hlc, hcm⟩ := own_slice hv
  unfold maxLen at hcm
  obtain ⟨i0, hi, hz0, hz1, hz2⟩ := info_parts valInfo
  have t22 := valTy
  have TK := Lib.hid (fun u => rtakes_any 3 u)
  rw [show takesN 3 = 0 from rfl] at TK
  have HM := Lib.hid h
  have hlc1 : (S.stk.length : Int) ≤ c := by omega
  have hlc2 : (c : Int) ≤ 9223372036854775807 := by omega
  have hlc3 : ¬ (S.stk.length : Int) < 0 := by omega
  have HG := Lib.hid hg
  have HC := Lib.hid hc
  have hgw := h.gw
  have hcw := h.cw
  have hkK : M.K ≤ M.g := h.kg
  have hgw1 : M.g < w.heap.size + 1 := by omega
  have hgw2 : M.g < w.heap.size + 1 + 1 := by omega
  have hgw3 : M.g < w.heap.size + 1 + 1 + 1 := by omega
  have hgn0 : ¬ M.g = w.heap.size := by omega
  have hgn1 : ¬ M.g = w.heap.size + 1 := by omega
  have hgn2 : ¬ M.g = w.heap.size + 1 + 1 := by omega
  have hcw1 : M.cg < w.heap.size + 1 := by omega
  have hcw2 : M.cg < w.heap.size + 1 + 1 := by omega
  have hcw3 : M.cg < w.heap.size + 1 + 1 + 1 := by omega
  obtain ⟨lb, lo, hLA, ⟨hlb, -⟩, hlc0⟩ := h.stat.lay.2 (by omega)
  have hx := hlc0 (a * 6 + 1) _ ((flat_get cellCells 6 cellCells_length M.E.lay a 1 _ (cellD_get ha) (by omega)).trans rfl)
  rw [← Nat.add_assoc] at hx
  have m3 : w.cell? ⟨M.g, 3, none⟩ = some (.slice (some ⟨lb, lo, none⟩) M.E.lay.length M.E.Lc) := (h.cell 3).trans (by rw [← hLA]; rfl)
  have m4 : w.cell? ⟨M.g, 4, none⟩ = some (.slice (some ⟨M.cg, 0, none⟩) S.cells.length M.cc) := h.cell 4
  have hy : w.cell? ⟨M.cg, a, none⟩ = some (.int .i64 (S.cells.getD a 0)) := (h.at_ (by rw [List.getD_eq_getElem?_getD, List.getElem?_eq_getElem hac]; rfl)).1
  have hcap := h.cap
  have hll := h.stat.lc
  have ha1 : (a : Int) < M.E.lay.length := by omega
  have ha2 : (a : Int) < S.cells.length := by omega
  have hll1 : (M.E.lay.length : Int) ≤ M.E.Lc := by omega
  have hll2 : (M.E.Lc : Int) ≤ 9223372036854775807 := by omega
  have hcc1 : (S.cells.length : Int) ≤ M.cc := by omega
  have hcc2 : (M.cc : Int) ≤ 9223372036854775807 := by omega
  have hcbw : lb < w.heap.size := by omega
  have hcbw1 : lb < w.heap.size + 1 := by omega
  have hcbw2 : lb < w.heap.size + 1 + 1 := by omega
  have hcbw3 : lb < w.heap.size + 1 + 1 + 1 := by omega
  generalize hxx : (cellD M.E.lay a).kind = kd at *
  generalize hyy : S.cells.getD a 0 = x at *
  clear hlc0 hLA hcap hll hxx hyy
  have HNE := Lib.hid (show ∀ b, (b < K ∨ w.heap.size ≤ b) → (Value.slice A S.stk.length c).ownBlock ≠ some b from fun b hb e => by have := hv.lt b e; omega)
  obtain ⟨n, hn⟩ : ∃ n, S.stk.length = n := ⟨_, rfl⟩
  have HN := Lib.hid hn
  rw [hn] at hlc hlc1 hlc3 hh HNE ⊢
  have HV := Lib.hid (show w.ownsRow K 106 2 (.slice A n c) n (valRow S.stk) by rw [← hn]; exact hv)
  clear h hv hn
  go_enter Tryd.func56, Tryd.ntmps56
  go_wp2_with fail
  refine (TK.out _).mono ?_
  rintro e _ ⟨rfl, rfl⟩
  go_wp2_with fail
  go_region_held3 (fun w' => w'.cell? ⟨w.heap.size, 3, none⟩ = some (.int .i64 (a : Int)) ∧ w'.cell? ⟨M.g, 3, none⟩ = some (.slice (some ⟨lb, lo, none⟩) M.E.lay.length M.E.Lc) ∧ w'.cell? ⟨M.g, 4, none⟩ = some (.slice (some ⟨M.cg, 0, none⟩) S.cells.length M.cc) ∧ w'.cell? ⟨lb, lo + a * 6 + 1, none⟩ = some (.int .i64 kd) ∧ w'.cell? ⟨M.cg, a, none⟩ = some (.int .i64 x)) (first | exact ⟨z0, z1, z2, z3, z4⟩ | exact ⟨(by go_simp), (by go_simp), (by go_simp), (by go_simp), (by go_simp)⟩ | go_keep)
    (first | (refine step_append_ownV rfl _ _ 102 rfl K 106 i0 _ 2 16 t22 hi hz0 hz1 hz2 rfl (by decide) (.slice A n c) n (valRow S.stk) rfl (row_keep HV.out (by repeat (first | (with_reducible exact Below.refl _ _) | (with_reducible refine Below.drew ?_) | (with_reducible refine below_dN _ ?_) | (with_reducible refine Below.alloc ?_ (by first | omega | (simp; done) | (simp; omega)) _)))) ⟨_, 0, none⟩ 1 1 (valCells (kd, x)) rfl rfl (vals_news (by go_simp) (by go_simp)) (valCells_one _) (by unfold maxLen; omega) (by omega) (by first | omega | (simp; done) | (simp; omega)) ?_; intro v1 w1 hown hgrow hnil; have z0 : w1.cell? ⟨w.heap.size, 3, none⟩ = some (.int .i64 (a : Int)) := grown_cell hgrow (HNE.out _ (by first | omega | (simp; done) | (simp; omega))) (by go_simp); have z1 : w1.cell? ⟨M.g, 3, none⟩ = some (.slice (some ⟨lb, lo, none⟩) M.E.lay.length M.E.Lc) := grown_cell hgrow (HNE.out _ (by first | omega | (simp; done) | (simp; omega))) (by go_simp); have z2 : w1.cell? ⟨M.g, 4, none⟩ = some (.slice (some ⟨M.cg, 0, none⟩) S.cells.length M.cc) := grown_cell hgrow (HNE.out _ (by first | omega | (simp; done) | (simp; omega))) (by go_simp); have z3 : w1.cell? ⟨lb, lo + a * 6 + 1, none⟩ = some (.int .i64 kd) := grown_cell hgrow (HNE.out _ (by first | omega | (simp; done) | (simp; omega))) (by go_simp); have z4 : w1.cell? ⟨M.cg, a, none⟩ = some (.int .i64 x) := grown_cell hgrow (HNE.out _ (by first | omega | (simp; done) | (simp; omega))) (by go_simp); have hsa := step_app (S' := pushS S (kd) [x]) HM.out (fun k hk => (HV.out.lt k hk).1) hKw HG.out HC.out (by repeat (first | (with_reducible exact Below.refl _ _) | (with_reducible refine Below.drew ?_) | (with_reducible refine below_dN _ ?_) | (with_reducible refine Below.alloc ?_ (by first | omega | (simp; done) | (simp; omega)) _))) hgrow ⟨rfl, rfl, rfl, rfl⟩; obtain ⟨A1, C1, rfl, _, _⟩ := own_slice hown; have HSA := Lib.hid hsa; have HO1 := Lib.hid hown; clear hown hgrow hnil hsa))
  all_goals (try go_wp2_with fail)
  all_goals go_ret2
  all_goals (refine ⟨_, rfl, fun _ => ?_, HSA.out.1, HSA.out.2⟩; have h1 := HO1.out; unfold StackAt; rw [show (pushS S (kd) [x]).stk = S.stk ++ [(kd, x)] from rfl, valRow_app, List.length_append, HN.out]; exact h1)
set_option maxHeartbeats 4000000 in
set_option maxRecDepth 100000 in
theorem rstep_in (M : RWho) (w : World) (S : St) (h : RMach M w S) (K : Nat) (hKw : K ≤ w.heap.size) (hg : M.g < K) (hc : M.cg < K) (v : Value) (hv : StackAt w K v S.stk) (hh : S.stk.length ≤ 1000000) (a0 a1 N : Int) (a : Nat) (ha : a < 4) :
    Calls Tryd.prog 56 #[.pointer (some ⟨M.g, 0, none⟩), .agg #[.int .i64 a0, .int .i64 a1, .int .i64 24, .int .i64 (a : Int), .int .i64 N], v] w (StepPost M K w (pushS S (5) [wrapK 5 (inD M.E a)], 0)) := by
  obtain ⟨A, c, rfl, hlc, hcm⟩ := own_slice hv
  unfold maxLen at hcm
  obtain ⟨i0, hi, hz0, hz1, hz2⟩ := info_parts valInfo
  have t22 := valTy
  have TK := Lib.hid (fun u => rtakes_any 24 u)
  rw [show takesN 24 = 0 from rfl] at TK
  have HM := Lib.hid h
  have hlc1 : (S.stk.length : Int) ≤ c := by omega
  have hlc2 : (c : Int) ≤ 9223372036854775807 := by omega
  have hlc3 : ¬ (S.stk.length : Int) < 0 := by omega
  have HG := Lib.hid hg
  have HC := Lib.hid hc
  have hgw := h.gw
  have hcw := h.cw
  have hkK : M.K ≤ M.g := h.kg
  have hgw1 : M.g < w.heap.size + 1 := by omega
  have hgw2 : M.g < w.heap.size + 1 + 1 := by omega
  have hgw3 : M.g < w.heap.size + 1 + 1 + 1 := by omega
  have hgn0 : ¬ M.g = w.heap.size := by omega
  have hgn1 : ¬ M.g = w.heap.size + 1 := by omega
  have hgn2 : ¬ M.g = w.heap.size + 1 + 1 := by omega
  have hcw1 : M.cg < w.heap.size + 1 := by omega
  have hcw2 : M.cg < w.heap.size + 1 + 1 := by omega
  have hcw3 : M.cg < w.heap.size + 1 + 1 + 1 := by omega
  have hx : w.cell? ⟨M.g, 5 + a, none⟩ = some (.int .i64 (inD M.E a)) := by
    rcases (show a = 0 ∨ a = 1 ∨ a = 2 ∨ a = 3 by omega) with rfl | rfl | rfl | rfl
    · exact h.cell 5
    · exact h.cell 6
    · exact h.cell 7
    · exact h.cell 8
  have ha1 : (a : Int) < 4 := by omega
  have WR := Lib.hid (fun u => rwrap_any 5 (inD M.E a) u)
  generalize hyy : wrapK 5 (inD M.E a) = y at *
  generalize hxx : inD M.E a = x at *
  clear hxx hyy
  have HNE := Lib.hid (show ∀ b, (b < K ∨ w.heap.size ≤ b) → (Value.slice A S.stk.length c).ownBlock ≠ some b from fun b hb e => by have := hv.lt b e; omega)
  obtain ⟨n, hn⟩ : ∃ n, S.stk.length = n := ⟨_, rfl⟩
  have HN := Lib.hid hn
  rw [hn] at hlc hlc1 hlc3 hh HNE ⊢
  have HV := Lib.hid (show w.ownsRow K 106 2 (.slice A n c) n (valRow S.stk) by rw [← hn]; exact hv)
  clear h hv hn
  go_enter Tryd.func56, Tryd.ntmps56
  go_wp2_with fail
  refine (TK.out _).mono ?_
  rintro e _ ⟨rfl, rfl⟩
  go_wp2_with fail
  go_region_held3 (fun w' => w'.cell? ⟨w.heap.size, 3, none⟩ = some (.int .i64 (a : Int)) ∧ w'.cell? ⟨M.g, 5 + a, none⟩ = some (.int .i64 x)) (first | exact ⟨z0, z1⟩ | exact ⟨(by go_simp), (by go_simp)⟩ | go_keep)
    (first | (go_at_call 26; (with_reducible refine (WR.out _).mono ?_); rintro e w' ⟨rfl, rfl⟩) | (refine step_append_ownV rfl _ _ 102 rfl K 106 i0 _ 2 16 t22 hi hz0 hz1 hz2 rfl (by decide) (.slice A n c) n (valRow S.stk) rfl (row_keep HV.out (by repeat (first | (with_reducible exact Below.refl _ _) | (with_reducible refine Below.drew ?_) | (with_reducible refine below_dN _ ?_) | (with_reducible refine Below.alloc ?_ (by first | omega | (simp; done) | (simp; omega)) _)))) ⟨_, 0, none⟩ 1 1 (valCells (5, y)) rfl rfl (vals_news (by go_simp) (by go_simp)) (valCells_one _) (by unfold maxLen; omega) (by omega) (by first | omega | (simp; done) | (simp; omega)) ?_; intro v1 w1 hown hgrow hnil; have z0 : w1.cell? ⟨w.heap.size, 3, none⟩ = some (.int .i64 (a : Int)) := grown_cell hgrow (HNE.out _ (by first | omega | (simp; done) | (simp; omega))) (by go_simp); have z1 : w1.cell? ⟨M.g, 5 + a, none⟩ = some (.int .i64 x) := grown_cell hgrow (HNE.out _ (by first | omega | (simp; done) | (simp; omega))) (by go_simp); have hsa := step_app (S' := pushS S (5) [y]) HM.out (fun k hk => (HV.out.lt k hk).1) hKw HG.out HC.out (by repeat (first | (with_reducible exact Below.refl _ _) | (with_reducible refine Below.drew ?_) | (with_reducible refine below_dN _ ?_) | (with_reducible refine Below.alloc ?_ (by first | omega | (simp; done) | (simp; omega)) _))) hgrow ⟨rfl, rfl, rfl, rfl⟩; obtain ⟨A1, C1, rfl, _, _⟩ := own_slice hown; have HSA := Lib.hid hsa; have HO1 := Lib.hid hown; clear hown hgrow hnil hsa))
  all_goals (try go_wp2_with fail)
  all_goals go_ret2
  all_goals (refine ⟨_, rfl, fun _ => ?_, HSA.out.1, HSA.out.2⟩; have h1 := HO1.out; unfold StackAt; rw [show (pushS S (5) [y]).stk = S.stk ++ [(5, y)] from rfl, valRow_app, List.length_append, HN.out]; exact h1)
end Go.Proofs.YtngobbbinacomaaDoor
