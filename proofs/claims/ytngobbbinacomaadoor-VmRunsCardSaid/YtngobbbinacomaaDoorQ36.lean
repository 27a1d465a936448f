/- Chapter 14: the document's step: what it is told by; instructions that take nothing. -/
import Derived.Test.YtngobbbinacomaaDoorQ35
namespace Go.Proofs.YtngobbbinacomaaDoor
open Go.RowKit Go.Proofs.YtngobbbinacomaaDoor.c11 Go.Proofs.YtngobbbinacomaaDoor.c10 Go.Proofs.YtngobbbinacomaaDoor.c13
set_option linter.unusedVariables false
set_option linter.unusedSimpArgs false
attribute [local go_sem ↓] Go.wp_at_zero Go.wp_at_succ
/-- A stack of values, each with its kind. -/
def valCells (p : Int × Int) : List Value := [.int .i64 p.1, .int .i64 p.2]
def valRow (l : List (Int × Int)) : List Value := l.flatMap valCells
theorem valCells_length (p : Int × Int) : (valCells p).length = 2 := rfl
theorem valCells_one (p : Int × Int) : ∀ u ∈ valCells p, u.oneCell' = true := by
  intro u hu; simp [valCells] at hu; rcases hu with rfl | rfl <;> rfl
theorem valRow_app (a b : List (Int × Int)) : valRow (a ++ b) = valRow a ++ valRow b := by simp [valRow]
theorem valRow_one (l : List (Int × Int)) : ∀ u ∈ valRow l, u.oneCell' = true := flat_one _ valCells_one _
theorem valRow_length (l : List (Int × Int)) : (valRow l).length = l.length * 2 := flat_length valCells 2 valCells_length l
theorem valInfo : (Tryd.prog.info? 106).map (fun i => (i.zero, i.size, i.bytes)) = some (some (.agg #[.int .i64 0, .int .i64 0]), 2, 16) := by kernel_rfl
theorem valTy : Tryd.prog.underlying 102 = some (.slice 106) := by kernel_rfl
/-- A row of values of the call's own. -/
def StackAt (w : World) (K : Nat) (v : Value) (l : List (Int × Int)) : Prop := w.ownsRow K 106 2 v l.length (valRow l)
theorem StackAt.below {w w' : World} {K : Nat} {v : Value} {l : List (Int × Int)} (h : StackAt w K v l) (hb : Below w.heap.size w w') : StackAt w' K v l := row_keep h hb
theorem vals_news {W : World} {g : Nat} {a b : Int} (h0 : W.cell? ⟨g, 0, none⟩ = some (.int .i64 a)) (h1 : W.cell? ⟨g, 1, none⟩ = some (.int .i64 b)) : ∀ (j : Nat) (u : Value), (valCells (a, b))[j]? = some u → W.cell? ((⟨g, 0, none⟩ : Addr).add j) = some u := by
  intro j u hj
  rw [Addr.add_lit]
  rcases j with _ | _ | j
  · simp [valCells] at hj; subst hj; simpa using h0
  · simp [valCells] at hj; subst hj; simpa using h1
  · simp [valCells] at hj
/-- What a step tells. -/
def StepPost (M : RWho) (K : Nat) (w : World) (R : St × Int) (e : Ending) (w' : World) : Prop :=
  ∃ v', e = .returned (.tuple #[v', .int .i64 R.2]) ∧ (R.2 = 0 → StackAt w' K v' R.1.stk) ∧ RMach M w' R.1 ∧ RFr M K w w'
/-- What an append to the stack leaves. -/
theorem step_app {M : RWho} {K : Nat} {w wa w1 : World} {S S' : St} {v : Value} (h : RMach M w S) (hka : ∀ k, v.ownBlock = some k → K ≤ k) (hKw : K ≤ w.heap.size) (hg : M.g < K) (hc : M.cg < K) (hba : Below w.heap.size w wa) (hgr : wa.grownBy w1 v.ownBlock) (he : M.arr S' = M.arr S ∧ S'.cells = S.cells ∧ S'.used = S.used ∧ S'.left = S.left) : RMach M w1 S' ∧ RFr M K w w1 := by
  have hz := hba.size
  have hb1 : Below K wa w1 := (Below.refl K wa).grown hgr (Nat.le_trans hKw hz) hka
  have hma := h.below hba
  refine ⟨⟨(hb1.block M.g hg).trans (by rw [he.1]; exact hma.box), ?_, hma.stat.keep fun b hb => hb1.block b (Nat.lt_of_lt_of_le hb.1 (Nat.le_of_lt (Nat.lt_of_le_of_lt hma.kg hg))), h.kg, h.ne, by rw [he.2.2.1, he.2.2.2]; exact h.bud, by rw [he.2.1]; exact h.cells⟩, ((RFr.refl M K w).below hba hKw).below hb1 (Nat.le_refl _)⟩
  rw [he.2.1]
  exact own_fr hma.row fun b hb => hb1.block b (by simp [Value.ownBlock] at hb; omega)
set_option maxHeartbeats 4000000 in
set_option maxRecDepth 100000 in
theorem rstep_push (M : RWho) (w : World) (S : St) (h : RMach M w S) (K : Nat) (hKw : K ≤ w.heap.size) (hg : M.g < K) (hc : M.cg < K) (v : Value) (hv : StackAt w K v S.stk) (hh : S.stk.length ≤ 1000000) (a0 a1 a N : Int) :
    Calls Tryd.prog 56 #[.pointer (some ⟨M.g, 0, none⟩), .agg #[.int .i64 a0, .int .i64 a1, .int .i64 1, .int .i64 a, .int .i64 N], v] w (StepPost M K w (pushS S a [N], 0)) := by
  obtain ⟨A, c, rfl, hlc, hcm⟩ := own_slice hv
  unfold maxLen at hcm
  obtain ⟨i0, hi, hz0, hz1, hz2⟩ := info_parts valInfo
  have t22 := valTy
  have TK := Lib.hid (fun u => rtakes_any 1 u)
  rw [show takesN 1 = 0 from rfl] at TK
  have HM := Lib.hid h
  have hlc1 : (S.stk.length : Int) ≤ c := by omega
  have hlc2 : (c : Int) ≤ 9223372036854775807 := by omega
  have hlc3 : ¬ (S.stk.length : Int) < 0 := by omega
  have HG := Lib.hid hg
  have HC := Lib.hid hc
  have hgw := h.gw
  have hgw1 : M.g < w.heap.size + 1 := by omega
  have hgw2 : M.g < w.heap.size + 1 + 1 := by omega
  have hgw3 : M.g < w.heap.size + 1 + 1 + 1 := by omega
  have hgn0 : ¬ M.g = w.heap.size := by omega
  have hgn1 : ¬ M.g = w.heap.size + 1 := by omega
  have hgn2 : ¬ M.g = w.heap.size + 1 + 1 := by omega
  have m13 : w.cell? ⟨M.g, 13, none⟩ = some (.int .i64 M.E.now) := h.cell 13
  obtain ⟨n, hn⟩ : ∃ n, S.stk.length = n := ⟨_, rfl⟩
  have HN := Lib.hid hn
  rw [hn] at hlc hlc1 hlc3 hh ⊢
  have HV := Lib.hid (show w.ownsRow K 106 2 (.slice A n c) n (valRow S.stk) by rw [← hn]; exact hv)
  clear h hv hg hc hn
  go_enter Tryd.func56, Tryd.ntmps56
  go_wp2_with fail
  refine (TK.out _).mono ?_
  rintro e _ ⟨rfl, rfl⟩
  go_wp2_with (at_builtin; refine wpList_append_own _ rfl _ _ 102 rfl K 106 i0 _ 2 16 t22 hi hz0 hz1 hz2 rfl (by decide) (.slice A n c) n (valRow S.stk) rfl (row_keep HV.out (by repeat (first | (with_reducible exact Below.refl _ _) | (with_reducible refine Below.drew ?_) | (with_reducible refine below_dN _ ?_) | (with_reducible refine Below.alloc ?_ (by first | omega | (simp; done) | (simp; omega)) _)))) ⟨_, 0, none⟩ 1 1 (valCells (a, N)) rfl rfl (vals_news (by go_simp) (by go_simp)) (valCells_one _) (by unfold maxLen; omega) (by omega) (by first | omega | (simp; done) | (simp; omega)) ?_; intro v1 w1 hown hgrow hnil; have hsa := step_app (S' := pushS S a [N]) HM.out (fun k hk => (HV.out.lt k hk).1) hKw HG.out HC.out (by repeat (first | (with_reducible exact Below.refl _ _) | (with_reducible refine Below.drew ?_) | (with_reducible refine below_dN _ ?_) | (with_reducible refine Below.alloc ?_ (by first | omega | (simp; done) | (simp; omega)) _))) hgrow ⟨rfl, rfl, rfl, rfl⟩; obtain ⟨A1, C1, rfl, _, _⟩ := own_slice hown; have HSA := Lib.hid hsa; have HO1 := Lib.hid hown; clear hown hgrow hnil hsa)
  go_wp2_with fail
  go_ret2
  refine ⟨_, rfl, fun _ => ?_, HSA.out.1, HSA.out.2⟩
  have h1 := HO1.out
  unfold StackAt
  rw [show (pushS S a [N]).stk = S.stk ++ [(a, N)] from rfl, valRow_app, List.length_append, HN.out]
  exact h1
set_option maxHeartbeats 4000000 in
set_option maxRecDepth 100000 in
theorem rstep_now (M : RWho) (w : World) (S : St) (h : RMach M w S) (K : Nat) (hKw : K ≤ w.heap.size) (hg : M.g < K) (hc : M.cg < K) (v : Value) (hv : StackAt w K v S.stk) (hh : S.stk.length ≤ 1000000) (a0 a1 a N : Int) :
    Calls Tryd.prog 56 #[.pointer (some ⟨M.g, 0, none⟩), .agg #[.int .i64 a0, .int .i64 a1, .int .i64 26, .int .i64 a, .int .i64 N], v] w (StepPost M K w (pushS S 6 [M.E.now], 0)) := by
  obtain ⟨A, c, rfl, hlc, hcm⟩ := own_slice hv
  unfold maxLen at hcm
  obtain ⟨i0, hi, hz0, hz1, hz2⟩ := info_parts valInfo
  have t22 := valTy
  have TK := Lib.hid (fun u => rtakes_any 26 u)
  rw [show takesN 26 = 0 from rfl] at TK
  have HM := Lib.hid h
  have hlc1 : (S.stk.length : Int) ≤ c := by omega
  have hlc2 : (c : Int) ≤ 9223372036854775807 := by omega
  have hlc3 : ¬ (S.stk.length : Int) < 0 := by omega
  have HG := Lib.hid hg
  have HC := Lib.hid hc
  have hgw := h.gw
  have hgw1 : M.g < w.heap.size + 1 := by omega
  have hgw2 : M.g < w.heap.size + 1 + 1 := by omega
  have hgw3 : M.g < w.heap.size + 1 + 1 + 1 := by omega
  have hgn0 : ¬ M.g = w.heap.size := by omega
  have hgn1 : ¬ M.g = w.heap.size + 1 := by omega
  have hgn2 : ¬ M.g = w.heap.size + 1 + 1 := by omega
  have m13 : w.cell? ⟨M.g, 13, none⟩ = some (.int .i64 M.E.now) := h.cell 13
  obtain ⟨n, hn⟩ : ∃ n, S.stk.length = n := ⟨_, rfl⟩
  have HN := Lib.hid hn
  rw [hn] at hlc hlc1 hlc3 hh ⊢
  have HV := Lib.hid (show w.ownsRow K 106 2 (.slice A n c) n (valRow S.stk) by rw [← hn]; exact hv)
  clear h hv hg hc hn
  go_enter Tryd.func56, Tryd.ntmps56
  go_wp2_with fail
  refine (TK.out _).mono ?_
  rintro e _ ⟨rfl, rfl⟩
  go_wp2_with (at_builtin; refine wpList_append_own _ rfl _ _ 102 rfl K 106 i0 _ 2 16 t22 hi hz0 hz1 hz2 rfl (by decide) (.slice A n c) n (valRow S.stk) rfl (row_keep HV.out (by repeat (first | (with_reducible exact Below.refl _ _) | (with_reducible refine Below.drew ?_) | (with_reducible refine below_dN _ ?_) | (with_reducible refine Below.alloc ?_ (by first | omega | (simp; done) | (simp; omega)) _)))) ⟨_, 0, none⟩ 1 1 (valCells (6, M.E.now)) rfl rfl (vals_news (by go_simp) (by go_simp)) (valCells_one _) (by unfold maxLen; omega) (by omega) (by first | omega | (simp; done) | (simp; omega)) ?_; intro v1 w1 hown hgrow hnil; have hsa := step_app (S' := pushS S 6 [M.E.now]) HM.out (fun k hk => (HV.out.lt k hk).1) hKw HG.out HC.out (by repeat (first | (with_reducible exact Below.refl _ _) | (with_reducible refine Below.drew ?_) | (with_reducible refine below_dN _ ?_) | (with_reducible refine Below.alloc ?_ (by first | omega | (simp; done) | (simp; omega)) _))) hgrow ⟨rfl, rfl, rfl, rfl⟩; obtain ⟨A1, C1, rfl, _, _⟩ := own_slice hown; have HSA := Lib.hid hsa; have HO1 := Lib.hid hown; clear hown hgrow hnil hsa)
  go_wp2_with fail
  go_ret2
  refine ⟨_, rfl, fun _ => ?_, HSA.out.1, HSA.out.2⟩
  have h1 := HO1.out
  unfold StackAt
  rw [show (pushS S 6 [M.E.now]).stk = S.stk ++ [(6, M.E.now)] from rfl, valRow_app, List.length_append, HN.out]
  exact h1
theorem grown_cell {wa w1 : World} {v : Value} {b o : Nat} {u : Value} (hg : wa.grownBy w1 v.ownBlock) (hb : v.ownBlock ≠ some b) (h : wa.cell? ⟨b, o, none⟩ = some u) : w1.cell? ⟨b, o, none⟩ = some u :=
  (World.cell?_of_block (a := ⟨b, o, none⟩) (hg.block b (cell_lt h) (fun e => hb e.symm))).trans h
theorem step_append_ownV {P : Program} {ops : Array Oper} {o : Oper} {a : Act} {w : World} {K : Act → World → Prop} {Q : Exit → Act → World → Prop} {E : Prop}
    (hg : o.guard = none) (s x : Operand) (t : TypeId) (ho : o.op = .call { callee := .builtin .append, args := #[s, x], argTypes := #[t, t] })
    (base : Nat) (e : TypeId) (i : TypeInfo) (z : Value) (size bytes : Nat) (ht : P.underlying t = some (.slice e)) (hi : P.info? e = some i) (hz : i.zero = some z)
    (hsize : i.size = size) (hby : i.bytes = bytes) (hzs : z.cells.size = size) (hsz : 0 < size)
    (v : Value) (n : Nat) (xs : List Value) (hs : a.eval s = v) (hown : w.ownsRow base e size v n xs)
    (ad : Addr) (m c : Nat) (news : List Value) (hx : a.eval x = .slice (some ad) m c) (hl : news.length = m * size) (hnews : ∀ j u, news[j]? = some u → w.cell? (ad.add j) = some u) (h1 : ∀ u ∈ news, u.oneCell' = true)
    (h63 : n + m ≤ maxLen) (hbytes : (n + m) * bytes ≤ 140737488355328) (hbase : base ≤ w.heap.size)
    (h : ∀ v' w', w'.ownsRow base e size v' (n + m) (xs ++ news) → w.grownBy w' v.ownBlock → (v' = .slice none 0 0 ↔ v = .slice none 0 0 ∧ m = 0) → K (a.put o.dst v') w') :
    if Region.wanted o (yielded ops a.tmps) = true then Oper.wp P o a w K Q else E := by
  have hw : Region.wanted o (yielded ops a.tmps) = true := by simp [Region.wanted, hg]
  rw [if_pos hw]
  exact wp_append_own w s x t ho base e i z size bytes ht hi hz hsize hby hzs hsz v n xs hs hown ad m c news hx hl hnews h1 h63 hbytes hbase h
theorem cellD_get {l : List CellD} {a : Nat} (h : a < l.length) : l[a]? = some (cellD l a) := by
  unfold cellD
  rw [if_neg (by omega), Int.toNat_natCast, List.getD_eq_getElem?_getD, List.getElem?_eq_getElem h]
  rfl
set_option maxHeartbeats 4000000 in
set_option maxRecDepth 100000 in
theorem rstep_const (M : RWho) (w : World) (S : St) (h : RMach M w S) (K : Nat) (hKw : K ≤ w.heap.size) (hg : M.g < K) (hc : M.cg < K) (v : Value) (hv : StackAt w K v S.stk) (hh : S.stk.length ≤ 1000000) (a0 a1 N : Int) (a : Nat) (ha : a < M.E.consts.length) :
    Calls Tryd.prog 56 #[.pointer (some ⟨M.g, 0, none⟩), .agg #[.int .i64 a0, .int .i64 a1, .int .i64 2, .int .i64 (a : Int), .int .i64 N], v] w (StepPost M K w (pushS S (5) [M.E.consts.getD a 0], 0)) := by
  obtain ⟨A, c, rfl, hlc, hcm⟩ := own_slice hv
  unfold maxLen at hcm
  obtain ⟨i0, hi, hz0, hz1, hz2⟩ := info_parts valInfo
  have t22 := valTy
  have TK := Lib.hid (fun u => rtakes_any 2 u)
  rw [show takesN 2 = 0 from rfl] at TK
  have HM := Lib.hid h
  have hlc1 : (S.stk.length : Int) ≤ c := by omega
  have hlc2 : (c : Int) ≤ 9223372036854775807 := by omega
  have hlc3 : ¬ (S.stk.length : Int) < 0 := by omega
  have HG := Lib.hid hg
  have HC := Lib.hid hc
  have hgw := h.gw
  have hcw := h.cw
  have hkK : M.K ≤ M.g := h.kg
  have hgw1 : M.g < w.heap.size + 1 := by omega
  have hgw2 : M.g < w.heap.size + 1 + 1 := by omega
  have hgw3 : M.g < w.heap.size + 1 + 1 + 1 := by omega
  have hgn0 : ¬ M.g = w.heap.size := by omega
  have hgn1 : ¬ M.g = w.heap.size + 1 := by omega
  have hgn2 : ¬ M.g = w.heap.size + 1 + 1 := by omega
  have hcw1 : M.cg < w.heap.size + 1 := by omega
  have hcw2 : M.cg < w.heap.size + 1 + 1 := by omega
  have hcw3 : M.cg < w.heap.size + 1 + 1 + 1 := by omega
  obtain ⟨cb, co, hCA, ⟨hcb, -⟩, hcc⟩ := h.stat.consts.2 (by omega)
  have hx := hcc a (.int .i64 (M.E.consts.getD a 0)) (by rw [List.getElem?_map, List.getD_eq_getElem?_getD, List.getElem?_eq_getElem ha]; rfl)
  have m1 : w.cell? ⟨M.g, 1, none⟩ = some (.slice (some ⟨cb, co, none⟩) M.E.consts.length M.E.Cc) := (h.cell 1).trans (by rw [← hCA]; rfl)
  have hcl := h.stat.cc
  have ha1 : (a : Int) < M.E.consts.length := by omega
  have hcl1 : (M.E.consts.length : Int) ≤ M.E.Cc := by omega
  have hcl2 : (M.E.Cc : Int) ≤ 9223372036854775807 := by omega
  have hcbw : cb < w.heap.size := by omega
  have hcbw1 : cb < w.heap.size + 1 := by omega
  have hcbw2 : cb < w.heap.size + 1 + 1 := by omega
  have hcbw3 : cb < w.heap.size + 1 + 1 + 1 := by omega
  generalize hxx : M.E.consts.getD a 0 = x at *
  clear hxx
  clear hcc hCA hcl
  have HNE := Lib.hid (show ∀ b, (b < K ∨ w.heap.size ≤ b) → (Value.slice A S.stk.length c).ownBlock ≠ some b from fun b hb e => by have := hv.lt b e; omega)
  obtain ⟨n, hn⟩ : ∃ n, S.stk.length = n := ⟨_, rfl⟩
  have HN := Lib.hid hn
  rw [hn] at hlc hlc1 hlc3 hh HNE ⊢
  have HV := Lib.hid (show w.ownsRow K 106 2 (.slice A n c) n (valRow S.stk) by rw [← hn]; exact hv)
  clear h hv hn
  go_enter Tryd.func56, Tryd.ntmps56
  go_wp2_with fail
  refine (TK.out _).mono ?_
  rintro e _ ⟨rfl, rfl⟩
  go_wp2_with fail
  go_region_held3 (fun w' => w'.cell? ⟨w.heap.size, 3, none⟩ = some (.int .i64 (a : Int)) ∧ w'.cell? ⟨M.g, 1, none⟩ = some (.slice (some ⟨cb, co, none⟩) M.E.consts.length M.E.Cc) ∧ w'.cell? ⟨cb, co + a, none⟩ = some (.int .i64 x)) (first | exact ⟨z0, z1, z2⟩ | exact ⟨(by go_simp), (by go_simp), (by go_simp)⟩ | go_keep)
    (first | (refine step_append_ownV rfl _ _ 102 rfl K 106 i0 _ 2 16 t22 hi hz0 hz1 hz2 rfl (by decide) (.slice A n c) n (valRow S.stk) rfl (row_keep HV.out (by repeat (first | (with_reducible exact Below.refl _ _) | (with_reducible refine Below.drew ?_) | (with_reducible refine below_dN _ ?_) | (with_reducible refine Below.alloc ?_ (by first | omega | (simp; done) | (simp; omega)) _)))) ⟨_, 0, none⟩ 1 1 (valCells (5, x)) rfl rfl (vals_news (by go_simp) (by go_simp)) (valCells_one _) (by unfold maxLen; omega) (by omega) (by first | omega | (simp; done) | (simp; omega)) ?_; intro v1 w1 hown hgrow hnil; have z0 : w1.cell? ⟨w.heap.size, 3, none⟩ = some (.int .i64 (a : Int)) := grown_cell hgrow (HNE.out _ (by first | omega | (simp; done) | (simp; omega))) (by go_simp); have z1 : w1.cell? ⟨M.g, 1, none⟩ = some (.slice (some ⟨cb, co, none⟩) M.E.consts.length M.E.Cc) := grown_cell hgrow (HNE.out _ (by first | omega | (simp; done) | (simp; omega))) (by go_simp); have z2 : w1.cell? ⟨cb, co + a, none⟩ = some (.int .i64 x) := grown_cell hgrow (HNE.out _ (by first | omega | (simp; done) | (simp; omega))) (by go_simp); have hsa := step_app (S' := pushS S (5) [x]) HM.out (fun k hk => (HV.out.lt k hk).1) hKw HG.out HC.out (by repeat (first | (with_reducible exact Below.refl _ _) | (with_reducible refine Below.drew ?_) | (with_reducible refine below_dN _ ?_) | (with_reducible refine Below.alloc ?_ (by first | omega | (simp; done) | (simp; omega)) _))) hgrow ⟨rfl, rfl, rfl, rfl⟩; obtain ⟨A1, C1, rfl, _, _⟩ := own_slice hown; have HSA := Lib.hid hsa; have HO1 := Lib.hid hown; clear hown hgrow hnil hsa))
  all_goals (try go_wp2_with fail)
  all_goals go_ret2
  all_goals (refine ⟨_, rfl, fun _ => ?_, HSA.out.1, HSA.out.2⟩; have h1 := HO1.out; unfold StackAt; rw [show (pushS S (5) [x]).stk = S.stk ++ [(5, x)] from rfl, valRow_app, List.length_append, HN.out]; exact h1)
end Go.Proofs.YtngobbbinacomaaDoor
