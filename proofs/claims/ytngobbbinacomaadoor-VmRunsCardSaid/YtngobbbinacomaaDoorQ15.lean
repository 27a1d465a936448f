/- Chapter 14: memory: what an instruction does with cells; a block's is left open. -/
import Derived.Test.YtngobbbinacomaaDoorQ13
import Derived.Test.YtngobbbinacomaaDoorQ14
namespace Go.Proofs.YtngobbbinacomaaDoor
open Go.RowKit Go.Proofs.YtngobbbinacomaaDoor.c11 Go.Proofs.YtngobbbinacomaaDoor.c13
set_option linter.unusedVariables false
set_option linter.unusedSimpArgs false
attribute [local go_sem ↓] Go.wp_at_zero Go.wp_at_succ
theorem below_dn {B : Nat} {a w : World} (n : Nat) (h : Below B a w) : Below B a (w.drewN n) := h.trans ⟨rfl, rfl, rfl, Nat.le_refl _, fun _ _ => rfl⟩
/-- What is said of the cells' row. -/
def Env.Ok (E : Env) : Prop := ∀ c ∈ E.lay, c.len ≤ 1000000
theorem Env.Ok.at_ {E : Env} (h : E.Ok) (a : Int) : (cellD E.lay a).len ≤ 1000000 := by
  unfold cellD
  split
  · decide
  · rw [List.getD_eq_getElem?_getD]
    cases hx : E.lay[a.toNat]? with
    | none => decide
    | some x => exact h x (List.mem_of_getElem? hx)
/-- What a block makes of six cells. -/
def blockC (E : Env) (b : Int) (c0 c1 c2 c3 c4 c5 : Int) : List Int :=
  if b = 9 then [c0, c1, tonQ c0 c1 c4 c5 E.now, tonE c0 c1 c4 c5 E.now, tonT c0 c4 c5 E.now, tonR c0 c5]
  else if b = 10 then [c0, c1, c2, bit (decide (c2 ≤ ctuV c0 c1 c4 c5)), ctuV c0 c1 c4 c5, c0] else [c0, c1, c2, c3, c4, c5]
def blockP (E : Env) (S : St) (a : Int) : St :=
  if isAt S.cells.length a = true ∧ isAt S.cells.length (a + 5) = true then
    { S with cells := S.cells.take a.toNat ++ blockC E (cellD E.lay a).block (S.cells.getD a.toNat 0) (S.cells.getD (a.toNat + 1) 0) (S.cells.getD (a.toNat + 2) 0) (S.cells.getD (a.toNat + 3) 0) (S.cells.getD (a.toNat + 4) 0) (S.cells.getD (a.toNat + 5) 0) ++ S.cells.drop (a.toNat + 6) }
  else S
/-- What an instruction does with cells, and its error. -/
def memoryP (E : Env) (S : St) (s a : Int) : St × Int :=
  if s = 3 then (if isAt S.cells.length a = true then pushS S (cellD E.lay a).kind [S.cells.getD a.toNat 0] else S, 0)
  else if s = 4 then (if isAt S.cells.length a = true then { (popS S).2 with cells := S.cells.set a.toNat (popS S).1.2 } else (popS S).2, 0)
  else if s = 5 then
    (if (indexP E S.cells.length a (popS S).1.2).2 = 0 then (pushS (popS S).2 (cellD E.lay a).kind [S.cells.getD (indexP E S.cells.length a (popS S).1.2).1.toNat 0], 0) else ((popS S).2, (indexP E S.cells.length a (popS S).1.2).2))
  else if s = 6 then
    (if (indexP E S.cells.length a (popS (popS S).2).1.2).2 = 0 then ({ (popS (popS S).2).2 with cells := S.cells.set (indexP E S.cells.length a (popS (popS S).2).1.2).1.toNat (popS S).1.2 }, 0)
     else ((popS (popS S).2).2, (indexP E S.cells.length a (popS (popS S).2).1.2).2))
  else if s = 27 then (blockP E S a, 0)
  else operateP S s a
theorem popS_cells (S : St) : (popS S).2.cells = S.cells := by unfold popS; split <;> rfl
theorem Mach.at_ {M : Who} {w : World} {K : Nat} {sv kv : Value} {S : St} (h : Mach M w K sv kv S) {cb n cap j : Nat} {x : Int} (hC : M.C = .slice (some ⟨cb, 0, none⟩) n cap) (hx : S.cells[j]? = some x) : w.cell? ⟨cb, j, none⟩ = some (.int .i64 x) := by
  obtain ⟨cb', cap', hC', _, _, _, _, hcl⟩ := h.row (by have := (List.getElem?_eq_some_iff.1 hx).1; omega)
  rw [hC] at hC'
  obtain rfl : cb = cb' := by injection hC' with e1; injection e1 with e1; injection e1
  exact (hcl j x hx).1
section
variable (M : Who) (w : World) (K : Nat) (sv kv : Value) (S : St) (h : Mach M w K sv kv S) (a0 a1 n : Int) (j : Nat) (ha2 : (j : Int) ≤ 1000000)
include h ha2
set_option maxHeartbeats 4000000 in
set_option maxRecDepth 100000 in
theorem memory_load (hhi : S.stk.length ≤ 999998000) : Calls Tryd.prog 89 #[.pointer (some ⟨M.g, 0, none⟩), .agg #[.int .i64 a0, .int .i64 a1, .int .i64 3, .int .i64 (j : Int), .int .i64 n]] w fun e w' =>
    e = .returned (.int .i64 (memoryP M.E S 3 j).2) ∧ Left M K sv kv w w' (memoryP M.E S 3 j).1 := by
  obtain ⟨Ac, cc, hC, hcc, hcm⟩ := own_slice h.cells
  unfold maxLen at hcm
  have hn : (S.cells.length : Int) ≤ 9223372036854775807 := by omega
  have hgw := h.gw
  have gn : ¬ w.heap.size = M.g := by omega
  have gm : ¬ M.g = w.heap.size := by omega
  have B0 := Lib.hid (show Below w.heap.size w (w.alloc (.cells #[.int .i64 a0, .int .i64 a1, .int .i64 3, .int .i64 (j : Int), .int .i64 n] 127)) from (Below.refl _ w).alloc (Nat.le_refl _) _)
  have H0 := Lib.hid (h.alloc (.cells #[.int .i64 a0, .int .i64 a1, .int .i64 3, .int .i64 (j : Int), .int .i64 n] 127))
  have HKW := Lib.hid h.kw
  have HFN := Lib.hid (h.far_new (b := w.heap.size) (Nat.le_refl _))
  have AT := Lib.hid (fun (u : World) (hu : u.cell? ⟨M.g, 0, none⟩ = some (.slice Ac S.cells.length cc)) => at_any M.g S.cells.length cc Ac (j : Int) u hu hn)
  have m0 : w.cell? ⟨M.g, 0, none⟩ = some (.slice Ac S.cells.length cc) := by rw [← hC]; exact h.cell 0
  have HCC := Lib.hid hC
  have hma : memoryP M.E S 3 j = (if isAt S.cells.length j = true then pushS S (cellD M.E.lay j).kind [S.cells.getD (j : Int).toNat 0] else S, 0) := by simp [memoryP]
  rw [hma]
  clear hma
  cases hat : isAt S.cells.length j with
  | false =>
    rw [if_neg (by decide)]
    rw [hat] at AT
    have HL := Lib.hid (H0.out.left)
    clear h hC hat
    go_enter Tryd.func89, Tryd.ntmps89
    go_wp2_with fail
    go_quiet ((go_at_call 95; refine Calls.quiet_of_same (AT.out _ ?_); go_simp))
    go_wp2
    go_ret
    exact ⟨rfl, Left.pre B0.out HKW.out (HL.out.post (below_dn _ (Below.refl _ _)))⟩
  | true =>
    rw [if_pos rfl]
    rw [hat] at AT
    have hat' := hat
    simp only [isAt, Bool.and_eq_true, decide_eq_true_eq] at hat'
    have hj : j < S.cells.length := by omega
    obtain ⟨x, hx⟩ : ∃ x, S.cells[j]? = some x := ⟨_, List.getElem?_eq_getElem hj⟩
    obtain ⟨cb, cap, hC', hck, hcg, hcap, _, hcl⟩ := h.row (by omega)
    rw [hC'] at hC
    obtain ⟨rfl, rfl⟩ : Ac = some ⟨cb, 0, none⟩ ∧ cc = cap := by injection hC with e1 e2 e3; exact ⟨e1.symm, e3.symm⟩
    have v0 := (hcl j x hx).1
    have hcw : cb < w.heap.size := Nat.lt_of_lt_of_le hck h.kw
    have hnj : (j : Int) < S.cells.length := by omega
    rw [show (j : Int).toNat = j by omega, show S.cells.getD j 0 = x by rw [List.getD_eq_getElem?_getD, hx]; rfl]
    have HH := Lib.hid hhi
    have HX := Lib.hid hx
    have HC := Lib.hid hC'
    have CE := Lib.hid (fun u (hb : Below (w.alloc (.cells #[.int .i64 a0, .int .i64 a1, .int .i64 3, .int .i64 (j : Int), .int .i64 n] 127)).heap.size (w.alloc (.cells #[.int .i64 a0, .int .i64 a1, .int .i64 3, .int .i64 (j : Int), .int .i64 n] 127)) u) => cell_any M u K sv kv S (H0.out.below hb) j)
    obtain ⟨⟨p, kd, rt, ini, ln, bl⟩, hcd⟩ : ∃ c, cellD M.E.lay j = c := ⟨_, rfl⟩
    rw [hcd] at CE
    rw [hcd]
    simp only at CE ⊢
    have fk := field_kind
    clear h hC hat hcl hx hcd hat' hC'
    go_enter Tryd.func89, Tryd.ntmps89
    go_wp2_with fail
    go_quiet ((go_at_call 95; refine Calls.quiet_of_same (AT.out _ ?_); go_simp))
    go_wp2_with fail
    go_region_held3 (fun w' => w'.cell? ⟨w.heap.size, 3, none⟩ = some (.int .i64 j) ∧ w'.cell? ⟨M.g, 0, none⟩ = some (.slice (some ⟨cb, 0, none⟩) S.cells.length cc) ∧ w'.cell? ⟨cb, j, none⟩ = some (.int .i64 x)) (first | exact ⟨oc, mc, vc⟩ | go_keep | exact ⟨(dcell hb1 (by first | omega | (simp; done) | (simp; omega)) 3).trans (by go_simp), (dcell hb1 (by first | omega | (simp; done) | (simp; omega)) 0).trans (by go_simp), (dcell hb1 (by first | omega | (simp; done) | (simp; omega)) j).trans (by go_simp)⟩)
      (first | (go_at_call 96; refine (CE.out _ (by repeat (first | (with_reducible exact HB1.out) | (with_reducible exact B0.out) | (with_reducible exact Below.refl _ _) | (with_reducible refine Below.drew ?_) | (with_reducible refine below_dn _ ?_) | (with_reducible refine Below.alloc ?_ (by first | omega | (simp; done) | (simp; omega)) _)))).mono ?_; rintro e w1 ⟨rfl, hb1⟩; have HB1 := Lib.hid (show Below (w.alloc (.cells #[.int .i64 a0, .int .i64 a1, .int .i64 3, .int .i64 (j : Int), .int .i64 n] 127)).heap.size (w.alloc (.cells #[.int .i64 a0, .int .i64 a1, .int .i64 3, .int .i64 (j : Int), .int .i64 n] 127)) w1 from Below.trans (by repeat (first | (with_reducible exact HB1.out) | (with_reducible exact B0.out) | (with_reducible exact Below.refl _ _) | (with_reducible refine Below.drew ?_) | (with_reducible refine below_dn _ ?_) | (with_reducible refine Below.alloc ?_ (by first | omega | (simp; done) | (simp; omega)) _))) (hb1.mono (by first | omega | (simp; done) | (simp; omega)))); (try have z1 := hb1.size); (try simp at z1); (try have qc := dcell hb1 (b := w.heap.size + 1) (by first | omega | (simp; done) | (simp; omega)) 0)) | (go_at_call 86; refine (push_at1 H0.out (by repeat (first | (with_reducible exact HB1.out) | (with_reducible exact B0.out) | (with_reducible exact Below.refl _ _) | (with_reducible refine Below.drew ?_) | (with_reducible refine below_dn _ ?_) | (with_reducible refine Below.alloc ?_ (by first | omega | (simp; done) | (simp; omega)) _))) (by have := HH.out; omega) kd x _ (by first | omega | (simp; done) | (simp; omega)) (by first | omega | (simp; done) | (simp; omega)) (by go_simp)).mono ?_; rintro e w2 ⟨rfl, hl⟩; obtain ⟨sv2, kv2, hm2, st2⟩ := hl.step; have oc := (st2.cell (b := w.heap.size) (by simp) HFN.out 3).trans (show _ = some (.int .i64 (j : Int)) by go_simp); have mc := (hm2.cell 0).trans (show some M.C = _ by rw [HC.out]); have vc := hm2.at_ HC.out (show (pushS S kd [x]).cells[j]? = some x from HX.out); have HL := Lib.hid hl; clear hl hm2 st2))
    all_goals go_wp2
    all_goals go_ret
    all_goals exact ⟨rfl, Left.pre B0.out HKW.out HL.out⟩
set_option maxHeartbeats 4000000 in
set_option maxRecDepth 100000 in
theorem memory_store : Calls Tryd.prog 89 #[.pointer (some ⟨M.g, 0, none⟩), .agg #[.int .i64 a0, .int .i64 a1, .int .i64 4, .int .i64 (j : Int), .int .i64 n]] w fun e w' =>
    e = .returned (.int .i64 (memoryP M.E S 4 j).2) ∧ Left M K sv kv w w' (memoryP M.E S 4 j).1 := by
  obtain ⟨Ac, cc, hC, hcc, hcm⟩ := own_slice h.cells
  unfold maxLen at hcm
  have hn : (S.cells.length : Int) ≤ 9223372036854775807 := by omega
  have hgw := h.gw
  have gn : ¬ w.heap.size = M.g := by omega
  have gm : ¬ M.g = w.heap.size := by omega
  have B0 := Lib.hid (show Below w.heap.size w (w.alloc (.cells #[.int .i64 a0, .int .i64 a1, .int .i64 4, .int .i64 (j : Int), .int .i64 n] 127)) from (Below.refl _ w).alloc (Nat.le_refl _) _)
  have H0 := Lib.hid (h.alloc (.cells #[.int .i64 a0, .int .i64 a1, .int .i64 4, .int .i64 (j : Int), .int .i64 n] 127))
  have HKW := Lib.hid h.kw
  have HFN := Lib.hid (h.far_new (b := w.heap.size) (Nat.le_refl _))
  have AT := Lib.hid (fun (u : World) (hu : u.cell? ⟨M.g, 0, none⟩ = some (.slice Ac S.cells.length cc)) => at_any M.g S.cells.length cc Ac (j : Int) u hu hn)
  have m0 : w.cell? ⟨M.g, 0, none⟩ = some (.slice Ac S.cells.length cc) := by rw [← hC]; exact h.cell 0
  have HCC := Lib.hid hC
  have hma : memoryP M.E S 4 j = (if isAt S.cells.length j = true then { (popS S).2 with cells := S.cells.set (j : Int).toNat (popS S).1.2 } else (popS S).2, 0) := by simp [memoryP]
  rw [hma]
  clear hma
  have hpc := popS_cells S
  have P0 := Lib.hid (pop_any M _ K sv kv S H0.out)
  obtain ⟨⟨⟨k1, x1⟩, S1⟩, hr1⟩ : ∃ r, popS S = r := ⟨_, rfl⟩
  rw [hr1] at P0 hpc
  rw [hr1]
  have HPC := Lib.hid hpc
  clear hr1 hpc
  cases hat : isAt S.cells.length j with
  | false =>
    rw [if_neg (by decide)]
    rw [hat] at AT
    clear h hC hat
    go_enter Tryd.func89, Tryd.ntmps89
    go_wp2_with fail
    refine P0.out.mono ?_
    rintro e w1 ⟨rfl, hl1⟩
    obtain ⟨sv1, kv1, hm1, st1⟩ := hl1.step
    have HL := Lib.hid hl1
    have o3 : w1.cell? ⟨w.heap.size, 3, none⟩ = some (.int .i64 (j : Int)) := (st1.cell (by simp) HFN.out 3).trans (by go_simp)
    have mc : w1.cell? ⟨M.g, 0, none⟩ = some (.slice Ac S.cells.length cc) := (hm1.cell 0).trans (show some M.C = _ by rw [HCC.out])
    clear hl1 hm1 st1
    go_wp2_with fail
    go_quiet ((go_at_call 95; refine Calls.quiet_of_same (AT.out _ ?_); go_simp))
    go_wp2
    go_ret
    exact ⟨rfl, Left.pre B0.out HKW.out (HL.out.post (below_dn _ (Below.refl _ _)))⟩
  | true =>
    rw [if_pos rfl]
    rw [hat] at AT
    have hat' := hat
    simp only [isAt, Bool.and_eq_true, decide_eq_true_eq] at hat'
    have hj : j < S.cells.length := by omega
    obtain ⟨x, hx⟩ : ∃ x, S.cells[j]? = some x := ⟨_, List.getElem?_eq_getElem hj⟩
    obtain ⟨cb, cap, hC', hck, hcg, hcap, _, hcl⟩ := h.row (by omega)
    rw [hC'] at hC
    obtain ⟨rfl, rfl⟩ : Ac = some ⟨cb, 0, none⟩ ∧ cc = cap := by injection hC with e1 e2 e3; exact ⟨e1.symm, e3.symm⟩
    have hcw : cb < w.heap.size := Nat.lt_of_lt_of_le hck h.kw
    have hcn1 : ¬ cb = w.heap.size := by omega
    have hcn2 : ¬ w.heap.size = cb := by omega
    have hcn3 : ¬ M.g = cb := fun e => hcg e.symm
    have hnj : (j : Int) < S.cells.length := by omega
    have hj0 : (0 : Int) ≤ j := by omega
    rw [show (j : Int).toNat = j by omega]
    have HX := Lib.hid hx
    have HC := Lib.hid hC'
    clear h hC hat hcl hx hat' hC'
    go_enter Tryd.func89, Tryd.ntmps89
    go_wp2_with fail
    refine P0.out.mono ?_
    rintro e w1 ⟨rfl, hl1⟩
    obtain ⟨sv1, kv1, hm1, st1⟩ := hl1.step
    have o3 : w1.cell? ⟨w.heap.size, 3, none⟩ = some (.int .i64 (j : Int)) := (st1.cell (by simp) HFN.out 3).trans (by go_simp)
    have mc : w1.cell? ⟨M.g, 0, none⟩ = some (.slice (some ⟨cb, 0, none⟩) S.cells.length cc) := (hm1.cell 0).trans (show some M.C = _ by rw [HC.out])
    have vc : w1.cell? ⟨cb, j, none⟩ = some (.int .i64 x) := hm1.at_ HC.out (by rw [HPC.out]; exact HX.out)
    have vf : w1.frozen? ⟨cb, j, none⟩ = false := by
      obtain ⟨cb', cap', hC', _, _, _, _, hcl⟩ := hm1.row (by rw [HPC.out]; omega)
      rw [HC.out] at hC'
      obtain rfl : cb = cb' := by injection hC' with e1; injection e1 with e1; injection e1
      exact (hcl j x (by rw [HPC.out]; exact HX.out)).2
    have HM1 := Lib.hid hm1
    have ST1 := Lib.hid st1
    clear hl1 hm1 st1
    go_wp2_with fail
    go_quiet ((go_at_call 95; refine Calls.quiet_of_same (AT.out _ ?_); go_simp))
    go_wp2_with fail
    go_region_held3 (fun w' => w'.cell? ⟨w.heap.size, 3, none⟩ = some (.int .i64 j) ∧ w'.cell? ⟨M.g, 0, none⟩ = some (.slice (some ⟨cb, 0, none⟩) S.cells.length cc)) (go_keep) (fail)
    all_goals go_wp2
    all_goals go_ret
    all_goals (refine ⟨rfl, Left.pre B0.out HKW.out ?_⟩)
    all_goals (obtain ⟨m2, s2⟩ := (HM1.out.drewN (_ : Nat)).store (cb := cb) (cap := cc) (by rw [HC.out, HPC.out]) j x1)
    all_goals (have m3 := (ST1.out.below (by have := HKW.out; simp; omega) (below_dn _ (Below.refl _ _))).trans s2; rw [HPC.out] at m2; exact m3.mach m2)
set_option maxHeartbeats 4000000 in
set_option maxRecDepth 100000 in
theorem memory_loadX (hE : M.E.Ok) (hhi : S.stk.length ≤ 999998000) : Calls Tryd.prog 89 #[.pointer (some ⟨M.g, 0, none⟩), .agg #[.int .i64 a0, .int .i64 a1, .int .i64 5, .int .i64 (j : Int), .int .i64 n]] w fun e w' =>
    e = .returned (.int .i64 (memoryP M.E S 5 j).2) ∧ Left M K sv kv w w' (memoryP M.E S 5 j).1 := by
  obtain ⟨Ac, cc, hC, hcc, hcm⟩ := own_slice h.cells
  unfold maxLen at hcm
  have hn : (S.cells.length : Int) ≤ 9223372036854775807 := by omega
  have hgw := h.gw
  have gn : ¬ w.heap.size = M.g := by omega
  have gm : ¬ M.g = w.heap.size := by omega
  have B0 := Lib.hid (show Below w.heap.size w (w.alloc (.cells #[.int .i64 a0, .int .i64 a1, .int .i64 5, .int .i64 (j : Int), .int .i64 n] 127)) from (Below.refl _ w).alloc (Nat.le_refl _) _)
  have H0 := Lib.hid (h.alloc (.cells #[.int .i64 a0, .int .i64 a1, .int .i64 5, .int .i64 (j : Int), .int .i64 n] 127))
  have HKW := Lib.hid h.kw
  have HFN := Lib.hid (h.far_new (b := w.heap.size) (Nat.le_refl _))
  have AT := Lib.hid (fun (u : World) (hu : u.cell? ⟨M.g, 0, none⟩ = some (.slice Ac S.cells.length cc)) => at_any M.g S.cells.length cc Ac (j : Int) u hu hn)
  have m0 : w.cell? ⟨M.g, 0, none⟩ = some (.slice Ac S.cells.length cc) := by rw [← hC]; exact h.cell 0
  have HCC := Lib.hid hC
  have hma : memoryP M.E S 5 j = (if (indexP M.E S.cells.length j (popS S).1.2).2 = 0 then (pushS (popS S).2 (cellD M.E.lay j).kind [S.cells.getD (indexP M.E S.cells.length j (popS S).1.2).1.toNat 0], 0) else ((popS S).2, (indexP M.E S.cells.length j (popS S).1.2).2)) := by simp [memoryP]
  rw [hma]
  clear hma AT
  have hpc := popS_cells S
  have hph := popS_hi S
  have P0 := Lib.hid (pop_any M _ K sv kv S H0.out)
  obtain ⟨⟨⟨k1, x1⟩, S1⟩, hr1⟩ : ∃ r, popS S = r := ⟨_, rfl⟩
  rw [hr1] at P0 hpc hph
  rw [hr1]
  have HPC := Lib.hid hpc
  have HH := Lib.hid (show S1.stk.length ≤ 999998000 from Nat.le_trans hph hhi)
  clear hr1 hpc hph hhi
  have IX := Lib.hid (fun (u : World) sv1 kv1 (hu : Mach M u K sv1 kv1 S1) => index_any M u K sv1 kv1 S1 hu j x1 ⟨by omega, ha2⟩ (hE.at_ j))
  rw [HPC.out] at IX
  obtain ⟨⟨ix, er⟩, hix⟩ : ∃ r, indexP M.E S.cells.length j x1 = r := ⟨_, rfl⟩
  rw [hix] at IX
  simp only [hix]
  have hdef := hix
  by_cases her : er = 0
  · subst her
    rw [if_pos rfl]
    have hin : ¬ (x1 < 0 ∨ (cellD M.E.lay j).len ≤ x1 ∨ isAt S.cells.length ((j : Int) + x1) = false) := by
      intro hc
      rw [indexP, if_pos hc] at hix
      simp at hix
    rw [indexP, if_neg hin] at hix
    obtain rfl : (j : Int) + x1 = ix := by simpa using hix
    have hat' : isAt S.cells.length ((j : Int) + x1) = true := by
      cases hb : isAt S.cells.length ((j : Int) + x1) with
      | true => rfl
      | false => exact absurd (.inr (.inr hb)) hin
    simp only [isAt, Bool.and_eq_true, decide_eq_true_eq] at hat'
    obtain ⟨m, hm⟩ : ∃ m : Nat, (j : Int) + x1 = m := ⟨((j : Int) + x1).toNat, by omega⟩
    rw [hm] at IX hat'
    rw [hm, show (m : Int).toNat = m by omega]
    have hj : m < S.cells.length := by omega
    obtain ⟨x, hx⟩ : ∃ x, S.cells[m]? = some x := ⟨_, List.getElem?_eq_getElem hj⟩
    obtain ⟨cb, cap, hC', hck, hcg, hcap, _, hcl⟩ := h.row (by omega)
    rw [hC'] at hC
    obtain ⟨rfl, rfl⟩ : Ac = some ⟨cb, 0, none⟩ ∧ cc = cap := by injection hC with e1 e2 e3; exact ⟨e1.symm, e3.symm⟩
    have hcw : cb < w.heap.size := Nat.lt_of_lt_of_le hck h.kw
    have hnj : (m : Int) < S.cells.length := by omega
    have hm0 : (0 : Int) ≤ m := by omega
    rw [show S.cells.getD m 0 = x by rw [List.getD_eq_getElem?_getD, hx]; rfl]
    have HX := Lib.hid hx
    have HC := Lib.hid hC'
    obtain ⟨⟨p, kd, rt, ini, ln, bl⟩, hcd⟩ : ∃ c, cellD M.E.lay j = c := ⟨_, rfl⟩
    have CE := Lib.hid (fun (u : World) sv1 kv1 (hu : Mach M u K sv1 kv1 S1) => cell_any M u K sv1 kv1 S1 hu j)
    rw [hcd] at CE
    rw [hcd]
    simp only at CE ⊢
    have fk := field_kind
    clear h hC hcl hx hcd hat' hC' hin hix hm hE hdef
    go_enter Tryd.func89, Tryd.ntmps89
    go_wp2_with fail
    refine P0.out.mono ?_
    rintro e w1 ⟨rfl, hl1⟩
    obtain ⟨sv1, kv1, hm1, st1⟩ := hl1.step
    have o3 : w1.cell? ⟨w.heap.size, 3, none⟩ = some (.int .i64 (j : Int)) := (st1.cell (by simp) HFN.out 3).trans (by go_simp)
    have hz1 : w.heap.size < w1.heap.size := by have := st1.fr.size; simp at this; omega
    have HM1 := Lib.hid hm1
    have ST1 := Lib.hid st1
    clear hl1 hm1 st1
    go_wp2_with fail
    refine (IX.out _ _ _ HM1.out).mono ?_
    rintro e w2 ⟨rfl, hb2⟩
    have hm2 := HM1.out.below hb2
    have st2 := ST1.out.below (by have := HKW.out; simp; omega) hb2
    have o3' : w2.cell? ⟨w.heap.size, 3, none⟩ = some (.int .i64 (j : Int)) := (dcell hb2 hz1 3).trans o3
    have m0' : w2.cell? ⟨M.g, 0, none⟩ = some (.slice (some ⟨cb, 0, none⟩) S.cells.length cc) := (hm2.cell 0).trans (show some M.C = _ by rw [HC.out])
    have vc' : w2.cell? ⟨cb, m, none⟩ = some (.int .i64 x) := hm2.at_ HC.out (by rw [HPC.out]; exact HX.out)
    have hz2 : w.heap.size < w2.heap.size := by have := hb2.size; omega
    have hgw2 : M.g < w2.heap.size := hm2.gw
    have hcw2 : cb < w2.heap.size := by have := hb2.size; omega
    have HM2 := Lib.hid hm2
    have ST2 := Lib.hid st2
    have HKW2 := Lib.hid hm2.kw
    have HF2 := Lib.hid (ST2.out.far w.heap.size (by simp) HFN.out).2
    have CE2 := Lib.hid (fun u (hb : Below w2.heap.size w2 u) => CE.out u sv1 kv1 (HM2.out.below hb))
    clear hb2 hm2 st2 o3 m0 IX CE
    go_wp2_with fail
    go_region_held3 (fun w' => w'.cell? ⟨w.heap.size, 3, none⟩ = some (.int .i64 j) ∧ w'.cell? ⟨M.g, 0, none⟩ = some (.slice (some ⟨cb, 0, none⟩) S.cells.length cc) ∧ w'.cell? ⟨cb, m, none⟩ = some (.int .i64 x)) (first | exact ⟨oc, mc, vc⟩ | go_keep | exact ⟨(dcell hb3 (by first | omega | (simp; done) | (simp; omega)) 3).trans (by go_simp), (dcell hb3 (by first | omega | (simp; done) | (simp; omega)) 0).trans (by go_simp), (dcell hb3 (by first | omega | (simp; done) | (simp; omega)) m).trans (by go_simp)⟩)
      (first | (go_at_call 96; refine (CE2.out _ (by repeat (first | (with_reducible exact HB3.out) | (with_reducible exact Below.refl _ _) | (with_reducible refine Below.drew ?_) | (with_reducible refine below_dn _ ?_) | (with_reducible refine Below.alloc ?_ (by first | omega | (simp; done) | (simp; omega)) _)))).mono ?_; rintro e w3 ⟨rfl, hb3⟩; have HB3 := Lib.hid (show Below w2.heap.size w2 w3 from Below.trans (by repeat (first | (with_reducible exact HB3.out) | (with_reducible exact Below.refl _ _) | (with_reducible refine Below.drew ?_) | (with_reducible refine below_dn _ ?_) | (with_reducible refine Below.alloc ?_ (by first | omega | (simp; done) | (simp; omega)) _))) (hb3.mono (by first | omega | (simp; done) | (simp; omega)))); (try have z3 := hb3.size); (try simp at z3); (try have qc := dcell hb3 (b := w2.heap.size) (by first | omega | (simp; done) | (simp; omega)) 0)) | (go_at_call 86; refine (push_at1 HM2.out (by repeat (first | (with_reducible exact HB3.out) | (with_reducible exact Below.refl _ _) | (with_reducible refine Below.drew ?_) | (with_reducible refine below_dn _ ?_) | (with_reducible refine Below.alloc ?_ (by first | omega | (simp; done) | (simp; omega)) _))) (by have := HH.out; omega) kd x _ (by first | omega | (simp; done) | (simp; omega)) (by first | omega | (simp; done) | (simp; omega)) (by go_simp)).mono ?_; rintro e w4 ⟨rfl, hl⟩; obtain ⟨sv4, kv4, hm4, st4⟩ := hl.step; have oc := (st4.cell (b := w.heap.size) hz2 HF2.out 3).trans o3'; have mc := (hm4.cell 0).trans (show some M.C = _ by rw [HC.out]); have vc := hm4.at_ HC.out (show (pushS S1 kd [x]).cells[m]? = some x by (show S1.cells[m]? = some x; rw [HPC.out]; exact HX.out)); have HL := Lib.hid hl; clear hl hm4 st4))
    all_goals go_wp2
    all_goals go_ret
    all_goals exact ⟨rfl, Left.pre B0.out HKW.out (ST2.out.left HL.out)⟩
  · rw [if_neg her]
    have her' : (er == 0) = false := by simpa using her
    have her2 : (er != 0) = true := by simpa using her
    clear h hC hix her hE hdef
    go_enter Tryd.func89, Tryd.ntmps89
    go_wp2_with fail
    refine P0.out.mono ?_
    rintro e w1 ⟨rfl, hl1⟩
    obtain ⟨sv1, kv1, hm1, st1⟩ := hl1.step
    have o3 : w1.cell? ⟨w.heap.size, 3, none⟩ = some (.int .i64 (j : Int)) := (st1.cell (by simp) HFN.out 3).trans (by go_simp)
    have HM1 := Lib.hid hm1
    have HL := Lib.hid hl1
    clear hl1 hm1 st1
    go_wp2_with fail
    refine (IX.out _ _ _ HM1.out).mono ?_
    rintro e w2 ⟨rfl, hb2⟩
    have HB2 := Lib.hid hb2
    clear hb2
    go_wp2
    go_ret
    exact ⟨rfl, Left.pre B0.out HKW.out (HL.out.post HB2.out)⟩
set_option maxHeartbeats 4000000 in
set_option maxRecDepth 100000 in
theorem memory_storeX (hE : M.E.Ok) : Calls Tryd.prog 89 #[.pointer (some ⟨M.g, 0, none⟩), .agg #[.int .i64 a0, .int .i64 a1, .int .i64 6, .int .i64 (j : Int), .int .i64 n]] w fun e w' =>
    e = .returned (.int .i64 (memoryP M.E S 6 j).2) ∧ Left M K sv kv w w' (memoryP M.E S 6 j).1 := by
  obtain ⟨Ac, cc, hC, hcc, hcm⟩ := own_slice h.cells
  unfold maxLen at hcm
  have hn : (S.cells.length : Int) ≤ 9223372036854775807 := by omega
  have hgw := h.gw
  have gn : ¬ w.heap.size = M.g := by omega
  have gm : ¬ M.g = w.heap.size := by omega
  have B0 := Lib.hid (show Below w.heap.size w (w.alloc (.cells #[.int .i64 a0, .int .i64 a1, .int .i64 6, .int .i64 (j : Int), .int .i64 n] 127)) from (Below.refl _ w).alloc (Nat.le_refl _) _)
  have H0 := Lib.hid (h.alloc (.cells #[.int .i64 a0, .int .i64 a1, .int .i64 6, .int .i64 (j : Int), .int .i64 n] 127))
  have HKW := Lib.hid h.kw
  have HFN := Lib.hid (h.far_new (b := w.heap.size) (Nat.le_refl _))
  have AT := Lib.hid (fun (u : World) (hu : u.cell? ⟨M.g, 0, none⟩ = some (.slice Ac S.cells.length cc)) => at_any M.g S.cells.length cc Ac (j : Int) u hu hn)
  have m0 : w.cell? ⟨M.g, 0, none⟩ = some (.slice Ac S.cells.length cc) := by rw [← hC]; exact h.cell 0
  have HCC := Lib.hid hC
  have hma : memoryP M.E S 6 j = (if (indexP M.E S.cells.length j (popS (popS S).2).1.2).2 = 0 then ({ (popS (popS S).2).2 with cells := S.cells.set (indexP M.E S.cells.length j (popS (popS S).2).1.2).1.toNat (popS S).1.2 }, 0)
     else ((popS (popS S).2).2, (indexP M.E S.cells.length j (popS (popS S).2).1.2).2)) := by simp [memoryP]
  rw [hma]
  clear hma AT
  have hpc := popS_cells S
  have P0 := Lib.hid (pop_any M _ K sv kv S H0.out)
  obtain ⟨⟨⟨k1, x1⟩, S1⟩, hr1⟩ : ∃ r, popS S = r := ⟨_, rfl⟩
  rw [hr1] at P0 hpc
  rw [hr1]
  have hpc2 := popS_cells S1
  have P1 := Lib.hid (fun u sv1 kv1 (hu : Mach M u K sv1 kv1 S1) => pop_any M u K sv1 kv1 S1 hu)
  simp only
  obtain ⟨⟨⟨k2, x2⟩, S2⟩, hr2⟩ : ∃ r, popS S1 = r := ⟨_, rfl⟩
  rw [hr2] at P1 hpc2
  rw [hr2]
  have HPC := Lib.hid (hpc2.trans hpc)
  clear hr1 hpc hr2 hpc2
  have IX := Lib.hid (fun (u : World) sv1 kv1 (hu : Mach M u K sv1 kv1 S2) => index_any M u K sv1 kv1 S2 hu j x2 ⟨by omega, ha2⟩ (hE.at_ j))
  rw [HPC.out] at IX
  simp only
  obtain ⟨⟨ix, er⟩, hix⟩ : ∃ r, indexP M.E S.cells.length j x2 = r := ⟨_, rfl⟩
  rw [hix] at IX
  simp only [hix]
  by_cases her : er = 0
  · subst her
    rw [if_pos rfl]
    have hin : ¬ (x2 < 0 ∨ (cellD M.E.lay j).len ≤ x2 ∨ isAt S.cells.length ((j : Int) + x2) = false) := by
      intro hc
      rw [indexP, if_pos hc] at hix
      simp at hix
    rw [indexP, if_neg hin] at hix
    obtain rfl : (j : Int) + x2 = ix := by simpa using hix
    have hat' : isAt S.cells.length ((j : Int) + x2) = true := by
      cases hb : isAt S.cells.length ((j : Int) + x2) with
      | true => rfl
      | false => exact absurd (.inr (.inr hb)) hin
    simp only [isAt, Bool.and_eq_true, decide_eq_true_eq] at hat'
    obtain ⟨m, hm⟩ : ∃ m : Nat, (j : Int) + x2 = m := ⟨((j : Int) + x2).toNat, by omega⟩
    rw [hm] at IX hat'
    rw [hm, show (m : Int).toNat = m by omega]
    have hj : m < S.cells.length := by omega
    obtain ⟨x, hx⟩ : ∃ x, S.cells[m]? = some x := ⟨_, List.getElem?_eq_getElem hj⟩
    obtain ⟨cb, cap, hC', hck, hcg, hcap, _, hcl⟩ := h.row (by omega)
    rw [hC'] at hC
    obtain ⟨rfl, rfl⟩ : Ac = some ⟨cb, 0, none⟩ ∧ cc = cap := by injection hC with e1 e2 e3; exact ⟨e1.symm, e3.symm⟩
    have hcw : cb < w.heap.size := Nat.lt_of_lt_of_le hck h.kw
    have hnj : (m : Int) < S.cells.length := by omega
    have hm0 : (0 : Int) ≤ m := by omega
    have HX := Lib.hid hx
    have HC := Lib.hid hC'
    clear h hC hcl hx hat' hC' hin hix hm hE
    go_enter Tryd.func89, Tryd.ntmps89
    go_wp2_with fail
    refine P0.out.mono ?_
    rintro e w1 ⟨rfl, hl1⟩
    obtain ⟨sv1, kv1, hm1, st1⟩ := hl1.step
    have HM1 := Lib.hid hm1
    have ST1 := Lib.hid st1
    clear hl1 hm1 st1
    go_wp2_with fail
    refine (P1.out _ _ _ HM1.out).mono ?_
    rintro e w2 ⟨rfl, hl2⟩
    obtain ⟨sv2, kv2, hm2, st2⟩ := hl2.step
    have st2' := ST1.out.trans st2
    have o3 : w2.cell? ⟨w.heap.size, 3, none⟩ = some (.int .i64 (j : Int)) := (st2'.cell (by simp) HFN.out 3).trans (by go_simp)
    have HM2 := Lib.hid hm2
    have ST2 := Lib.hid st2'
    clear hl2 hm2 st2 st2'
    go_wp2_with fail
    refine (IX.out _ _ _ HM2.out).mono ?_
    rintro e w3 ⟨rfl, hb3⟩
    have hm3 := HM2.out.below hb3
    have m0' : w3.cell? ⟨M.g, 0, none⟩ = some (.slice (some ⟨cb, 0, none⟩) S.cells.length cc) := (hm3.cell 0).trans (show some M.C = _ by rw [HC.out])
    have vc : w3.cell? ⟨cb, m, none⟩ = some (.int .i64 x) := hm3.at_ HC.out (by rw [HPC.out]; exact HX.out)
    have vf : w3.frozen? ⟨cb, m, none⟩ = false := by
      obtain ⟨cb', cap', hC', _, _, _, _, hcl⟩ := hm3.row (by rw [HPC.out]; omega)
      rw [HC.out] at hC'
      obtain rfl : cb = cb' := by injection hC' with e1; injection e1 with e1; injection e1
      exact (hcl m x (by rw [HPC.out]; exact HX.out)).2
    have HM3 := Lib.hid hm3
    have ST3 := Lib.hid (ST2.out.below (by have := HKW.out; simp; omega) hb3)
    clear hm3 hb3 o3
    go_wp2
    go_ret
    obtain ⟨m4, s4⟩ := HM3.out.store (cb := cb) (cap := cc) (by rw [HC.out, HPC.out]) m x1
    rw [HPC.out] at m4
    exact ⟨rfl, Left.pre B0.out HKW.out ((ST3.out.trans s4).mach m4)⟩
  · rw [if_neg her]
    have her' : (er == 0) = false := by simpa using her
    have her2 : (er != 0) = true := by simpa using her
    clear h hC hix her hE
    go_enter Tryd.func89, Tryd.ntmps89
    go_wp2_with fail
    refine P0.out.mono ?_
    rintro e w1 ⟨rfl, hl1⟩
    obtain ⟨sv1, kv1, hm1, st1⟩ := hl1.step
    have HM1 := Lib.hid hm1
    have ST1 := Lib.hid st1
    clear hl1 hm1 st1
    go_wp2_with fail
    refine (P1.out _ _ _ HM1.out).mono ?_
    rintro e w2 ⟨rfl, hl2⟩
    obtain ⟨sv2, kv2, hm2, st2⟩ := hl2.step
    have st2' := ST1.out.trans st2
    have o3 : w2.cell? ⟨w.heap.size, 3, none⟩ = some (.int .i64 (j : Int)) := (st2'.cell (by simp) HFN.out 3).trans (by go_simp)
    have HM2 := Lib.hid hm2
    have ST2 := Lib.hid st2'
    clear hl2 hm2 st2 st2'
    go_wp2_with fail
    refine (IX.out _ _ _ HM2.out).mono ?_
    rintro e w3 ⟨rfl, hb3⟩
    have HB3 := Lib.hid hb3
    clear hb3
    go_wp2
    go_ret
    exact ⟨rfl, Left.pre B0.out HKW.out ((ST2.out.mach HM2.out).post HB3.out)⟩
end
end Go.Proofs.YtngobbbinacomaaDoor
