/- Chapter 14: do, but a call: what an instruction does. -/
import Derived.Test.YtngobbbinacomaaDoorQ15
import Derived.Test.YtngobbbinacomaaDoorQ07
import Derived.Outline
namespace Go.Proofs.YtngobbbinacomaaDoor
open Go.RowKit Go.Proofs.YtngobbbinacomaaDoor.c11 Go.Proofs.YtngobbbinacomaaDoor.c13
set_option linter.unusedVariables false
set_option linter.unusedSimpArgs false
attribute [local go_sem ↓] Go.wp_at_zero Go.wp_at_succ
def BlockAt (M : Who) (K : Nat) (S : St) (a : Int) : Prop := ∀ w sv kv, Mach M w K sv kv S → Calls Tryd.prog 98 #[.pointer (some ⟨M.g, 0, none⟩), .int .i64 a] w fun e w' => e = .returned (.tuple #[]) ∧ Left M K sv kv w w' (blockP M.E S a)
def CallAt (M : Who) (K : Nat) (S : St) (a : Int) (R : St × Int) : Prop := ∀ w sv kv, Mach M w K sv kv S → Calls Tryd.prog 39 #[.pointer (some ⟨M.g, 0, none⟩), .int .i64 a] w fun e w' => e = .returned (.int .i64 R.2) ∧ Left M K sv kv w w' R.1
def inD (E : Env) (a : Int) : Int := if a = 0 then E.i0 else if a = 1 then E.i1 else if a = 2 then E.i2 else E.i3
def setOut (S : St) (a x : Int) : St := if a = 0 then { S with o0 := x } else if a = 1 then { S with o1 := x } else if a = 2 then { S with o2 := x } else { S with o3 := x }
/-- What an instruction does that is no call, and its error. -/
def doP (E : Env) (S : St) (s a n : Int) : St × Int :=
  if s = 1 then (pushS S a [n], 0)
  else if s = 2 then (if a < E.consts.length then pushS S 5 [E.consts.getD a.toNat 0] else S, 0)
  else if s = 24 then (if isPort a = true then pushS S 5 [wrapK 5 (inD E a)] else S, 0)
  else if s = 25 then (if isPort a = true then setOut (popS S).2 a (popS S).1.2 else (popS S).2, 0)
  else if s = 26 then (pushS S 6 [E.now], 0)
  else memoryP E S s a
theorem mach_out {M : Who} {w : World} {K : Nat} {sv kv : Value} {S : St} (h : Mach M w K sv kv S) (j : Nat) (hj : j < 4) (x : Int) :
    Mach M (w.setCell ⟨M.g, 1 + j, none⟩ (.int .i64 x)) K sv kv (setOut S j x) ∧ Step M K w sv kv (w.setCell ⟨M.g, 1 + j, none⟩ (.int .i64 x)) sv kv := by
  have hfr : Fr M K w (w.setCell ⟨M.g, 1 + j, none⟩ (.int .i64 x)) := (Fr.refl M K w).setG _ _
  have hb := blk_set h.blk (1 + j) (.int .i64 x)
  refine ⟨?_, hfr, fun b hb f => ⟨Below.heap_setCell w ⟨M.g, 1 + j, none⟩ _ b f.g, f⟩⟩
  rcases (show j = 0 ∨ j = 1 ∨ j = 2 ∨ j = 3 by omega) with rfl | rfl | rfl | rfl <;>
    exact h.fr (S' := setOut S _ x) hfr hb (own_setFar h.cells h.c_g _) (own_setFar h.stk h.stk_g _) (own_setFar h.knd h.knd_g _) h.apart h.bud h.hi
section
variable (M : Who) (w : World) (K : Nat) (sv kv : Value) (S : St) (h : Mach M w K sv kv S) (a0 a1 n : Int) (j : Nat) (ha2 : (j : Int) ≤ 1000000)
include h
set_option maxHeartbeats 4000000 in
set_option maxRecDepth 100000 in
theorem memory_block (hB : BlockAt M K S j) : Calls Tryd.prog 89 #[.pointer (some ⟨M.g, 0, none⟩), .agg #[.int .i64 a0, .int .i64 a1, .int .i64 27, .int .i64 (j : Int), .int .i64 n]] w fun e w' =>
    e = .returned (.int .i64 (memoryP M.E S 27 j).2) ∧ Left M K sv kv w w' (memoryP M.E S 27 j).1 := by
  rw [show memoryP M.E S 27 j = (blockP M.E S j, 0) by simp [memoryP]]
  have B0 := Lib.hid (show Below w.heap.size w (w.alloc (.cells #[.int .i64 a0, .int .i64 a1, .int .i64 27, .int .i64 (j : Int), .int .i64 n] 127)) from (Below.refl _ w).alloc (Nat.le_refl _) _)
  have HB := Lib.hid (hB _ _ _ (h.alloc (.cells #[.int .i64 a0, .int .i64 a1, .int .i64 27, .int .i64 (j : Int), .int .i64 n] 127)))
  have HKW := Lib.hid h.kw
  clear h hB
  go_enter Tryd.func89, Tryd.ntmps89
  go_wp2_with fail
  refine HB.out.mono ?_
  rintro e w1 ⟨rfl, hl⟩
  have HL := Lib.hid hl
  clear hl
  go_wp2
  go_ret
  exact ⟨rfl, Left.pre B0.out HKW.out HL.out⟩
set_option maxHeartbeats 4000000 in
set_option maxRecDepth 100000 in
theorem memory_rest (s : Int) (hhi : S.stk.length ≤ 999998000) (h3 : s ≠ 3) (h4 : s ≠ 4) (h5 : s ≠ 5) (h6 : s ≠ 6) (h27 : s ≠ 27) : Calls Tryd.prog 89 #[.pointer (some ⟨M.g, 0, none⟩), .agg #[.int .i64 a0, .int .i64 a1, .int .i64 s, .int .i64 (j : Int), .int .i64 n]] w fun e w' =>
    e = .returned (.int .i64 (memoryP M.E S s j).2) ∧ Left M K sv kv w w' (memoryP M.E S s j).1 := by
  rw [show memoryP M.E S s j = operateP S s j by simp [memoryP, h3, h4, h5, h6, h27]]
  have B0 := Lib.hid (show Below w.heap.size w (w.alloc (.cells #[.int .i64 a0, .int .i64 a1, .int .i64 s, .int .i64 (j : Int), .int .i64 n] 127)) from (Below.refl _ w).alloc (Nat.le_refl _) _)
  have OP := Lib.hid (operate_any M _ K sv kv S (h.alloc (.cells #[.int .i64 a0, .int .i64 a1, .int .i64 s, .int .i64 (j : Int), .int .i64 n] 127)) hhi a0 a1 s j n)
  have HKW := Lib.hid h.kw
  have q3 : (s == 3) = false := by simpa using h3
  have q4 : (s == 4) = false := by simpa using h4
  have q5 : (s == 5) = false := by simpa using h5
  have q6 : (s == 6) = false := by simpa using h6
  have q27 : (s == 27) = false := by simpa using h27
  clear h
  go_enter Tryd.func89, Tryd.ntmps89
  go_wp2_with fail
  refine OP.out.mono ?_
  rintro e w1 ⟨rfl, hl⟩
  have HL := Lib.hid hl
  clear hl
  go_wp2
  go_ret
  exact ⟨rfl, Left.pre B0.out HKW.out HL.out⟩
include ha2 in
theorem memory_any (hE : M.E.Ok) (hhi : S.stk.length ≤ 999998000) (s : Int) (hB : s = 27 → BlockAt M K S j) : Calls Tryd.prog 89 #[.pointer (some ⟨M.g, 0, none⟩), .agg #[.int .i64 a0, .int .i64 a1, .int .i64 s, .int .i64 (j : Int), .int .i64 n]] w fun e w' =>
    e = .returned (.int .i64 (memoryP M.E S s j).2) ∧ Left M K sv kv w w' (memoryP M.E S s j).1 := by
  by_cases h3 : s = 3
  · subst h3; exact memory_load M w K sv kv S h a0 a1 n j ha2 hhi
  by_cases h4 : s = 4
  · subst h4; exact memory_store M w K sv kv S h a0 a1 n j ha2
  by_cases h5 : s = 5
  · subst h5; exact memory_loadX M w K sv kv S h a0 a1 n j ha2 hE hhi
  by_cases h6 : s = 6
  · subst h6; exact memory_storeX M w K sv kv S h a0 a1 n j ha2 hE
  by_cases h27 : s = 27
  · subst h27; exact memory_block M w K sv kv S h a0 a1 n j (hB rfl)
  exact memory_rest M w K sv kv S h a0 a1 n j s hhi h3 h4 h5 h6 h27
set_option maxHeartbeats 4000000 in
set_option maxRecDepth 100000 in
theorem do_push (hhi : S.stk.length ≤ 999998000) : Calls Tryd.prog 73 #[.pointer (some ⟨M.g, 0, none⟩), .agg #[.int .i64 a0, .int .i64 a1, .int .i64 1, .int .i64 (j : Int), .int .i64 n]] w fun e w' =>
    e = .returned (.int .i64 (doP M.E S 1 j n).2) ∧ Left M K sv kv w w' (doP M.E S 1 j n).1 := by
  rw [show doP M.E S 1 j n = (pushS S j [n], 0) by simp [doP]]
  have B0 := Lib.hid (show Below w.heap.size w (w.alloc (.cells #[.int .i64 a0, .int .i64 a1, .int .i64 1, .int .i64 (j : Int), .int .i64 n] 127)) from (Below.refl _ w).alloc (Nat.le_refl _) _)
  have H0 := Lib.hid (h.alloc (.cells #[.int .i64 a0, .int .i64 a1, .int .i64 1, .int .i64 (j : Int), .int .i64 n] 127))
  have HH := Lib.hid hhi
  have HKW := Lib.hid h.kw
  clear h
  go_enter Tryd.func73, Tryd.ntmps73
  go_wp2_with fail
  refine (push_at1 H0.out (by repeat (first | (with_reducible exact Below.refl _ _) | (with_reducible refine Below.drew ?_) | (with_reducible refine below_dn _ ?_) | (with_reducible refine Below.alloc ?_ (by first | omega | (simp; done) | (simp; omega)) _))) (by have := HH.out; omega) j n _ (by first | omega | (simp; done) | (simp; omega)) (by first | omega | (simp; done) | (simp; omega)) (by go_simp)).mono ?_
  rintro e w1 ⟨rfl, hl⟩
  have HL := Lib.hid hl
  clear hl
  go_wp2
  go_ret
  exact ⟨rfl, Left.pre B0.out HKW.out HL.out⟩
set_option maxHeartbeats 4000000 in
set_option maxRecDepth 100000 in
theorem do_now (hhi : S.stk.length ≤ 999998000) : Calls Tryd.prog 73 #[.pointer (some ⟨M.g, 0, none⟩), .agg #[.int .i64 a0, .int .i64 a1, .int .i64 26, .int .i64 (j : Int), .int .i64 n]] w fun e w' =>
    e = .returned (.int .i64 (doP M.E S 26 j n).2) ∧ Left M K sv kv w w' (doP M.E S 26 j n).1 := by
  rw [show doP M.E S 26 j n = (pushS S 6 [M.E.now], 0) by simp [doP]]
  have B0 := Lib.hid (show Below w.heap.size w (w.alloc (.cells #[.int .i64 a0, .int .i64 a1, .int .i64 26, .int .i64 (j : Int), .int .i64 n] 127)) from (Below.refl _ w).alloc (Nat.le_refl _) _)
  have H0 := Lib.hid (h.alloc (.cells #[.int .i64 a0, .int .i64 a1, .int .i64 26, .int .i64 (j : Int), .int .i64 n] 127))
  have HH := Lib.hid hhi
  have HKW := Lib.hid h.kw
  have hgw := h.gw
  have gn : ¬ w.heap.size = M.g := by omega
  have gm : ¬ M.g = w.heap.size := by omega
  have m13 : w.cell? ⟨M.g, 13, none⟩ = some (.int .i64 M.E.now) := h.cell 13
  clear h
  go_enter Tryd.func73, Tryd.ntmps73
  go_wp2_with fail
  refine (push_at1 H0.out (by repeat (first | (with_reducible exact Below.refl _ _) | (with_reducible refine Below.drew ?_) | (with_reducible refine below_dn _ ?_) | (with_reducible refine Below.alloc ?_ (by first | omega | (simp; done) | (simp; omega)) _))) (by have := HH.out; omega) 6 M.E.now _ (by first | omega | (simp; done) | (simp; omega)) (by first | omega | (simp; done) | (simp; omega)) (by go_simp)).mono ?_
  rintro e w1 ⟨rfl, hl⟩
  have HL := Lib.hid hl
  clear hl
  go_wp2
  go_ret
  exact ⟨rfl, Left.pre B0.out HKW.out HL.out⟩
set_option maxHeartbeats 4000000 in
set_option maxRecDepth 100000 in
theorem do_const (hhi : S.stk.length ≤ 999998000) : Calls Tryd.prog 73 #[.pointer (some ⟨M.g, 0, none⟩), .agg #[.int .i64 a0, .int .i64 a1, .int .i64 2, .int .i64 (j : Int), .int .i64 n]] w fun e w' =>
    e = .returned (.int .i64 (doP M.E S 2 j n).2) ∧ Left M K sv kv w w' (doP M.E S 2 j n).1 := by
  rw [show doP M.E S 2 j n = (if (j : Int) < M.E.consts.length then pushS S 5 [M.E.consts.getD (j : Int).toNat 0] else S, 0) by simp [doP]]
  have B0 := Lib.hid (show Below w.heap.size w (w.alloc (.cells #[.int .i64 a0, .int .i64 a1, .int .i64 2, .int .i64 (j : Int), .int .i64 n] 127)) from (Below.refl _ w).alloc (Nat.le_refl _) _)
  have H0 := Lib.hid (h.alloc (.cells #[.int .i64 a0, .int .i64 a1, .int .i64 2, .int .i64 (j : Int), .int .i64 n] 127))
  have HKW := Lib.hid h.kw
  have HFN := Lib.hid (h.far_new (b := w.heap.size) (Nat.le_refl _))
  have hgw := h.gw
  have gn : ¬ w.heap.size = M.g := by omega
  have gm : ¬ M.g = w.heap.size := by omega
  have m6 : w.cell? ⟨M.g, 6, none⟩ = some (.slice M.E.Ca M.E.consts.length M.E.Cc) := h.cell 6
  have hcc := h.stat.cc
  have hcl : (M.E.consts.length : Int) ≤ 9223372036854775807 := by omega
  by_cases hj : (j : Int) < M.E.consts.length
  · rw [if_pos hj]
    have hj' : j < M.E.consts.length := by omega
    obtain ⟨x, hx⟩ : ∃ x, M.E.consts[j]? = some x := ⟨_, List.getElem?_eq_getElem hj'⟩
    rw [show (j : Int).toNat = j by omega, show M.E.consts.getD j 0 = x by rw [List.getD_eq_getElem?_getD, hx]; rfl]
    obtain ⟨b, off, hA, hX, hcell⟩ := h.stat.consts.2 (by omega)
    have v0 := hcell j (.int .i64 x) (by simp [hx])
    have hbw : b < w.heap.size := Nat.lt_of_lt_of_le hX.1 (Nat.le_trans h.k0 h.kw)
    have HS := Lib.hid h.stat
    have HXX := Lib.hid hX
    rw [hA] at m6
    have HA := Lib.hid hA
    have HX := Lib.hid hx
    have hj0 : (0 : Int) ≤ j := by omega
    have HH := Lib.hid hhi
    clear h hcell hA hx hX hcc
    go_enter Tryd.func73, Tryd.ntmps73
    go_wp2_with fail
    go_quiet (fail)
    go_wp2_with fail
    go_region_held3 (fun w' => w'.cell? ⟨w.heap.size, 3, none⟩ = some (.int .i64 j) ∧ w'.cell? ⟨M.g, 6, none⟩ = some (.slice (some ⟨b, off, none⟩) M.E.consts.length M.E.Cc) ∧ w'.cell? ⟨b, off + j, none⟩ = some (.int .i64 x)) (first | exact ⟨oc, mc, vc⟩ | go_keep)
      ((go_at_call 86; refine (push_at1 H0.out (by repeat (first | (with_reducible exact Below.refl _ _) | (with_reducible refine Below.drew ?_) | (with_reducible refine below_dn _ ?_) | (with_reducible refine Below.alloc ?_ (by first | omega | (simp; done) | (simp; omega)) _))) (by have := HH.out; omega) 5 x _ (by first | omega | (simp; done) | (simp; omega)) (by first | omega | (simp; done) | (simp; omega)) (by go_simp)).mono ?_; rintro e w2 ⟨rfl, hl⟩; obtain ⟨sv2, kv2, hm2, st2⟩ := hl.step; have oc := (st2.cell (b := w.heap.size) (by simp) HFN.out 3).trans (show _ = some (.int .i64 (j : Int)) by go_simp); have mc := (hm2.cell 6).trans (show some (Value.slice M.E.Ca M.E.consts.length M.E.Cc) = _ by rw [HA.out]); have vc := (World.cell?_of_block (a := ⟨b, off + j, none⟩) (st2.fr.block b (Nat.lt_of_lt_of_le HXX.out.1 H0.out.k0) HXX.out.2.1 HXX.out.2.2)).trans (show _ = some (Value.int .i64 x) by go_simp); have HL := Lib.hid hl; clear hl hm2 st2))
    all_goals go_wp2
    all_goals go_ret
    all_goals exact ⟨rfl, Left.pre B0.out HKW.out HL.out⟩
  · rw [if_neg hj]
    have HL := Lib.hid H0.out.left
    have hj' : decide (j < M.E.consts.length) = false := by simp; omega
    clear h hcc hj
    go_enter Tryd.func73, Tryd.ntmps73
    go_wp2_with fail
    go_quiet (fail)
    go_wp2
    go_ret
    exact ⟨rfl, Left.pre B0.out HKW.out (HL.out.post (below_dn _ (Below.refl _ _)))⟩
set_option maxHeartbeats 4000000 in
set_option maxRecDepth 100000 in
theorem do_in (hhi : S.stk.length ≤ 999998000) : Calls Tryd.prog 73 #[.pointer (some ⟨M.g, 0, none⟩), .agg #[.int .i64 a0, .int .i64 a1, .int .i64 24, .int .i64 (j : Int), .int .i64 n]] w fun e w' =>
    e = .returned (.int .i64 (doP M.E S 24 j n).2) ∧ Left M K sv kv w w' (doP M.E S 24 j n).1 := by
  rw [show doP M.E S 24 j n = (if isPort j = true then pushS S 5 [wrapK 5 (inD M.E j)] else S, 0) by simp [doP]]
  have B0 := Lib.hid (show Below w.heap.size w (w.alloc (.cells #[.int .i64 a0, .int .i64 a1, .int .i64 24, .int .i64 (j : Int), .int .i64 n] 127)) from (Below.refl _ w).alloc (Nat.le_refl _) _)
  have H0 := Lib.hid (h.alloc (.cells #[.int .i64 a0, .int .i64 a1, .int .i64 24, .int .i64 (j : Int), .int .i64 n] 127))
  have HKW := Lib.hid h.kw
  have HFN := Lib.hid (h.far_new (b := w.heap.size) (Nat.le_refl _))
  have PO := Lib.hid (fun u => port_any j u)
  have HH := Lib.hid hhi
  have hgw := h.gw
  have gn : ¬ w.heap.size = M.g := by omega
  have gm : ¬ M.g = w.heap.size := by omega
  have hm := h.cell
  cases hp : isPort j with
  | false =>
    rw [if_neg (by decide)]
    rw [hp] at PO
    clear h hm hp
    go_enter Tryd.func73, Tryd.ntmps73
    go_wp2_with fail
    refine (PO.out _).mono ?_
    rintro e w1 ⟨rfl, rfl⟩
    go_wp2
    go_ret
    exact ⟨rfl, Left.pre B0.out HKW.out H0.out.left⟩
  | true =>
    rw [if_pos rfl]
    rw [hp] at PO
    have hj4 : j < 4 := by simp [isPort] at hp; omega
    obtain ⟨x, hx⟩ : ∃ x, inD M.E j = x := ⟨_, rfl⟩
    have v0 : w.cell? ⟨M.g, 9 + j, none⟩ = some (.int .i64 x) := by
      rcases (show j = 0 ∨ j = 1 ∨ j = 2 ∨ j = 3 by omega) with rfl | rfl | rfl | rfl <;> (subst hx; exact hm _)
    rw [hx]
    have WR := Lib.hid (fun u => pwrap_any 5 x u)
    have hj0 : (0 : Int) ≤ j := by omega
    have hj5 : (j : Int) < 4 := by omega
    have HX := Lib.hid hx
    clear h hm hp hx
    go_enter Tryd.func73, Tryd.ntmps73
    go_wp2_with fail
    refine (PO.out _).mono ?_
    rintro e w1 ⟨rfl, rfl⟩
    go_wp2_with fail
    go_region_held3 (fun w' => w'.cell? ⟨w.heap.size, 3, none⟩ = some (.int .i64 j) ∧ w'.cell? ⟨M.g, 9 + j, none⟩ = some (.int .i64 x)) (first | exact ⟨oc, mc⟩ | go_keep)
      (first | (go_at_call 88; (with_reducible refine (WR.out _).mono ?_); rintro e w' ⟨rfl, rfl⟩) | (go_at_call 86; refine (push_at1 H0.out (by repeat (first | (with_reducible exact Below.refl _ _) | (with_reducible refine Below.drew ?_) | (with_reducible refine below_dn _ ?_) | (with_reducible refine Below.alloc ?_ (by first | omega | (simp; done) | (simp; omega)) _))) (by have := HH.out; omega) 5 (wrapK 5 x) _ (by first | omega | (simp; done) | (simp; omega)) (by first | omega | (simp; done) | (simp; omega)) (by go_simp)).mono ?_; rintro e w2 ⟨rfl, hl⟩; obtain ⟨sv2, kv2, hm2, st2⟩ := hl.step; have oc := (st2.cell (b := w.heap.size) (by simp) HFN.out 3).trans (show _ = some (.int .i64 (j : Int)) by go_simp); have mc : w2.cell? ⟨M.g, 9 + j, none⟩ = some (.int .i64 x) := (by (rcases (show j = 0 ∨ j = 1 ∨ j = 2 ∨ j = 3 by omega) with rfl | rfl | rfl | rfl <;> (rw [← HX.out]; exact hm2.cell _))); have HL := Lib.hid hl; clear hl hm2 st2))
    all_goals go_wp2
    all_goals go_ret
    all_goals exact ⟨rfl, Left.pre B0.out HKW.out HL.out⟩
set_option maxHeartbeats 4000000 in
set_option maxRecDepth 100000 in
theorem do_out : Calls Tryd.prog 73 #[.pointer (some ⟨M.g, 0, none⟩), .agg #[.int .i64 a0, .int .i64 a1, .int .i64 25, .int .i64 (j : Int), .int .i64 n]] w fun e w' =>
    e = .returned (.int .i64 (doP M.E S 25 j n).2) ∧ Left M K sv kv w w' (doP M.E S 25 j n).1 := by
  rw [show doP M.E S 25 j n = (if isPort j = true then setOut (popS S).2 j (popS S).1.2 else (popS S).2, 0) by simp [doP]]
  have B0 := Lib.hid (show Below w.heap.size w (w.alloc (.cells #[.int .i64 a0, .int .i64 a1, .int .i64 25, .int .i64 (j : Int), .int .i64 n] 127)) from (Below.refl _ w).alloc (Nat.le_refl _) _)
  have H0 := Lib.hid (h.alloc (.cells #[.int .i64 a0, .int .i64 a1, .int .i64 25, .int .i64 (j : Int), .int .i64 n] 127))
  have HKW := Lib.hid h.kw
  have HFN := Lib.hid (h.far_new (b := w.heap.size) (Nat.le_refl _))
  have PO := Lib.hid (fun u => port_any j u)
  have hgw := h.gw
  have gn : ¬ w.heap.size = M.g := by omega
  have gm : ¬ M.g = w.heap.size := by omega
  have P0 := Lib.hid (pop_any M _ K sv kv S H0.out)
  obtain ⟨⟨⟨k1, x1⟩, S1⟩, hr1⟩ : ∃ r, popS S = r := ⟨_, rfl⟩
  rw [hr1] at P0
  rw [hr1]
  simp only
  clear hr1
  cases hp : isPort j with
  | false =>
    rw [if_neg (by decide)]
    rw [hp] at PO
    clear h hp
    go_enter Tryd.func73, Tryd.ntmps73
    go_wp2_with fail
    refine P0.out.mono ?_
    rintro e w1 ⟨rfl, hl1⟩
    obtain ⟨sv1, kv1, hm1, st1⟩ := hl1.step
    have o3 : w1.cell? ⟨w.heap.size, 3, none⟩ = some (.int .i64 (j : Int)) := (st1.cell (by simp) HFN.out 3).trans (by go_simp)
    have HL := Lib.hid hl1
    clear hl1 hm1 st1
    go_wp2_with fail
    refine (PO.out _).mono ?_
    rintro e w2 ⟨rfl, rfl⟩
    go_wp2
    go_ret
    exact ⟨rfl, Left.pre B0.out HKW.out HL.out⟩
  | true =>
    rw [if_pos rfl]
    rw [hp] at PO
    have hj4 : j < 4 := by simp [isPort] at hp; omega
    have hj0 : (0 : Int) ≤ j := by omega
    have hj5 : (j : Int) < 4 := by omega
    clear h hp
    go_enter Tryd.func73, Tryd.ntmps73
    go_wp2_with fail
    refine P0.out.mono ?_
    rintro e w1 ⟨rfl, hl1⟩
    obtain ⟨sv1, kv1, hm1, st1⟩ := hl1.step
    have o3 : w1.cell? ⟨w.heap.size, 3, none⟩ = some (.int .i64 (j : Int)) := (st1.cell (by simp) HFN.out 3).trans (by go_simp)
    have vc : ∃ u, w1.cell? ⟨M.g, 1 + j, none⟩ = some u := by
      rcases (show j = 0 ∨ j = 1 ∨ j = 2 ∨ j = 3 by omega) with rfl | rfl | rfl | rfl <;> exact ⟨_, hm1.cell _⟩
    obtain ⟨vo, vc⟩ := vc
    have vf := hm1.frozen (1 + j)
    have HM1 := Lib.hid hm1
    have ST1 := Lib.hid st1
    clear hl1 hm1 st1
    go_wp2_with fail
    refine (PO.out _).mono ?_
    rintro e w2 ⟨rfl, rfl⟩
    go_wp2_with fail
    go_region_held3 (fun w' => w'.cell? ⟨w.heap.size, 3, none⟩ = some (.int .i64 j)) (go_keep) (fail)
    all_goals go_wp2
    all_goals go_ret
    all_goals (refine ⟨rfl, Left.pre B0.out HKW.out ?_⟩)
    all_goals (obtain ⟨m2, s2⟩ := mach_out (HM1.out.drewN (_ : Nat)) j hj4 x1)
    all_goals (have m3 := (ST1.out.below (by have := HKW.out; simp; omega) (below_dn _ (Below.refl _ _))).trans s2; exact m3.mach m2)
set_option maxHeartbeats 4000000 in
set_option maxRecDepth 100000 in
theorem do_call (R : St × Int) (hC : CallAt M K S j R) : Calls Tryd.prog 73 #[.pointer (some ⟨M.g, 0, none⟩), .agg #[.int .i64 a0, .int .i64 a1, .int .i64 20, .int .i64 (j : Int), .int .i64 n]] w fun e w' =>
    e = .returned (.int .i64 R.2) ∧ Left M K sv kv w w' R.1 := by
  have B0 := Lib.hid (show Below w.heap.size w (w.alloc (.cells #[.int .i64 a0, .int .i64 a1, .int .i64 20, .int .i64 (j : Int), .int .i64 n] 127)) from (Below.refl _ w).alloc (Nat.le_refl _) _)
  have HC := Lib.hid (hC _ _ _ (h.alloc (.cells #[.int .i64 a0, .int .i64 a1, .int .i64 20, .int .i64 (j : Int), .int .i64 n] 127)))
  have HKW := Lib.hid h.kw
  clear h hC
  go_enter Tryd.func73, Tryd.ntmps73
  go_wp2_with fail
  refine HC.out.mono ?_
  rintro e w1 ⟨rfl, hl⟩
  have HL := Lib.hid hl
  clear hl
  go_wp2
  go_ret
  exact ⟨rfl, Left.pre B0.out HKW.out HL.out⟩
set_option maxHeartbeats 4000000 in
set_option maxRecDepth 100000 in
include ha2 in
theorem do_rest (s : Int) (hE : M.E.Ok) (hhi : S.stk.length ≤ 999998000) (hB : s = 27 → BlockAt M K S j) (h1 : s ≠ 1) (h2 : s ≠ 2) (h24 : s ≠ 24) (h25 : s ≠ 25) (h26 : s ≠ 26) (h20 : s ≠ 20) : Calls Tryd.prog 73 #[.pointer (some ⟨M.g, 0, none⟩), .agg #[.int .i64 a0, .int .i64 a1, .int .i64 s, .int .i64 (j : Int), .int .i64 n]] w fun e w' =>
    e = .returned (.int .i64 (doP M.E S s j n).2) ∧ Left M K sv kv w w' (doP M.E S s j n).1 := by
  rw [show doP M.E S s j n = memoryP M.E S s j by simp [doP, h1, h2, h24, h25, h26]]
  have B0 := Lib.hid (show Below w.heap.size w (w.alloc (.cells #[.int .i64 a0, .int .i64 a1, .int .i64 s, .int .i64 (j : Int), .int .i64 n] 127)) from (Below.refl _ w).alloc (Nat.le_refl _) _)
  have OP := Lib.hid (memory_any M _ K sv kv S (h.alloc (.cells #[.int .i64 a0, .int .i64 a1, .int .i64 s, .int .i64 (j : Int), .int .i64 n] 127)) a0 a1 n j ha2 hE hhi s hB)
  have HKW := Lib.hid h.kw
  have q1 : (s == 1) = false := by simpa using h1
  have q2 : (s == 2) = false := by simpa using h2
  have q24 : (s == 24) = false := by simpa using h24
  have q25 : (s == 25) = false := by simpa using h25
  have q26 : (s == 26) = false := by simpa using h26
  have q20 : (s == 20) = false := by simpa using h20
  clear h hB hE
  go_enter Tryd.func73, Tryd.ntmps73
  go_wp2_with fail
  refine OP.out.mono ?_
  rintro e w1 ⟨rfl, hl⟩
  have HL := Lib.hid hl
  clear hl
  go_wp2
  go_ret
  exact ⟨rfl, Left.pre B0.out HKW.out HL.out⟩
include ha2 in
/-- do, whatever the instruction, but a call. -/
theorem do_any (s : Int) (hE : M.E.Ok) (hhi : S.stk.length ≤ 999998000) (hB : s = 27 → BlockAt M K S j) (h20 : s ≠ 20) : Calls Tryd.prog 73 #[.pointer (some ⟨M.g, 0, none⟩), .agg #[.int .i64 a0, .int .i64 a1, .int .i64 s, .int .i64 (j : Int), .int .i64 n]] w fun e w' =>
    e = .returned (.int .i64 (doP M.E S s j n).2) ∧ Left M K sv kv w w' (doP M.E S s j n).1 := by
  by_cases h1 : s = 1
  · subst h1; exact do_push M w K sv kv S h a0 a1 n j hhi
  by_cases h2 : s = 2
  · subst h2; exact do_const M w K sv kv S h a0 a1 n j hhi
  by_cases h24 : s = 24
  · subst h24; exact do_in M w K sv kv S h a0 a1 n j hhi
  by_cases h25 : s = 25
  · subst h25; exact do_out M w K sv kv S h a0 a1 n j
  by_cases h26 : s = 26
  · subst h26; exact do_now M w K sv kv S h a0 a1 n j hhi
  exact do_rest M w K sv kv S h a0 a1 n j ha2 s hE hhi hB h1 h2 h24 h25 h26 h20
end
end Go.Proofs.YtngobbbinacomaaDoor

/- Chapter 14: what a function's run makes, as a plain function; the machine's loop. -/
namespace Go.Proofs.YtngobbbinacomaaDoor
open Go.RowKit Go.Proofs.YtngobbbinacomaaDoor.c11 Go.Proofs.YtngobbbinacomaaDoor.c10
set_option linter.unusedVariables false
set_option linter.unusedSimpArgs false
attribute [local go_sem ↓] Go.wp_at_zero Go.wp_at_succ
/-- An instruction read. -/
def rdL (b : List Int) (p : Int) : (Int × Int × Int × Int × Int) × Int := rd (fun i => b.getD i 0) b.length p
/-- A function's run, from a byte on: the state behind it, its error. -/
def execP (E : Env) : Nat → List Int → Int → St → St × Int
  | 0, _, _, S => (S, 23)
  | f + 1, b, p, S =>
    if S.left = 0 then (S, 23)
    else if (rdL b p).2 ≠ 0 then (S, (rdL b p).2)
    else if (rdL b p).1.2.2.1 = 0 then ({ S with left := S.left - 1, used := S.used + 1 }, 0)
    else if (rdL b p).1.2.2.1 = 18 then execP E f b (rdL b p).1.2.2.2.1 { S with left := S.left - 1, used := S.used + 1 }
    else if (rdL b p).1.2.2.1 = 19 then
      execP E f b (if (popS { S with left := S.left - 1, used := S.used + 1 }).1.2 = 0 then (rdL b p).1.2.2.2.1 else (rdL b p).1.2.1) (popS { S with left := S.left - 1, used := S.used + 1 }).2
    else if (rdL b p).1.2.2.1 = 20 then
      (if (rdL b p).1.2.2.2.1 < E.funcs.length then
        (if (execP E f (E.funcs.getD (rdL b p).1.2.2.2.1.toNat []) 0 { S with left := S.left - 1, used := S.used + 1, stk := [] }).2 = 0 then
          execP E f b (rdL b p).1.2.1 { (execP E f (E.funcs.getD (rdL b p).1.2.2.2.1.toNat []) 0 { S with left := S.left - 1, used := S.used + 1, stk := [] }).1 with stk := S.stk }
        else ({ (execP E f (E.funcs.getD (rdL b p).1.2.2.2.1.toNat []) 0 { S with left := S.left - 1, used := S.used + 1, stk := [] }).1 with stk := S.stk }, (execP E f (E.funcs.getD (rdL b p).1.2.2.2.1.toNat []) 0 { S with left := S.left - 1, used := S.used + 1, stk := [] }).2))
      else ({ S with left := S.left - 1, used := S.used + 1 }, 20))
    else if (doP E { S with left := S.left - 1, used := S.used + 1 } (rdL b p).1.2.2.1 (rdL b p).1.2.2.2.1 (rdL b p).1.2.2.2.2).2 = 0 then
      execP E f b (rdL b p).1.2.1 (doP E { S with left := S.left - 1, used := S.used + 1 } (rdL b p).1.2.2.1 (rdL b p).1.2.2.2.1 (rdL b p).1.2.2.2.2).1
    else doP E { S with left := S.left - 1, used := S.used + 1 } (rdL b p).1.2.2.1 (rdL b p).1.2.2.2.1 (rdL b p).1.2.2.2.2
/-- What stays within the bounds. -/
structure Keeps (S S' : St) : Prop where
  left : S'.left = S.left
  used : S'.used = S.used
  stk : S'.stk.length ≤ S.stk.length + 2
theorem popS_keeps (S : St) : (popS S).2.left = S.left ∧ (popS S).2.used = S.used ∧ (popS S).2.stk.length ≤ S.stk.length := by
  refine ⟨?_, ?_, popS_hi S⟩ <;> (unfold popS; split <;> rfl)
theorem operateP_keeps (S : St) (s a : Int) : Keeps S (operateP S s a).1 := by
  have h1 := popS_keeps S
  have h2 := popS_keeps (popS S).2
  unfold operateP
  split
  · exact ⟨h1.1, h1.2.1, by simp [pushS]; omega⟩
  split
  · exact ⟨h1.1, h1.2.1, by simp [pushS]; omega⟩
  split
  · exact ⟨h1.1, h1.2.1, by simp; omega⟩
  split
  · exact ⟨h1.1, h1.2.1, by simp [pushS]; omega⟩
  split
  · exact ⟨h2.1.trans h1.1, h2.2.1.trans h1.2.1, by simp [pushS]; omega⟩
  · exact ⟨h2.1.trans h1.1, h2.2.1.trans h1.2.1, by simp; omega⟩
theorem memoryP_keeps (E : Env) (S : St) (s a : Int) : Keeps S (memoryP E S s a).1 := by
  have h1 := popS_keeps S
  have h2 := popS_keeps (popS S).2
  unfold memoryP
  split
  · simp only
    split
    · exact ⟨rfl, rfl, by simp [pushS]⟩
    · exact ⟨rfl, rfl, by omega⟩
  split
  · simp only
    split
    · exact ⟨h1.1, h1.2.1, by simp; omega⟩
    · exact ⟨h1.1, h1.2.1, by omega⟩
  split
  · split
    · exact ⟨h1.1, h1.2.1, by simp [pushS]; omega⟩
    · exact ⟨h1.1, h1.2.1, by simp; omega⟩
  split
  · split
    · exact ⟨h2.1.trans h1.1, h2.2.1.trans h1.2.1, by simp; omega⟩
    · exact ⟨h2.1.trans h1.1, h2.2.1.trans h1.2.1, by simp; omega⟩
  split
  · simp only [blockP]
    split
    · exact ⟨rfl, rfl, by simp⟩
    · exact ⟨rfl, rfl, by omega⟩
  · exact operateP_keeps S s a
theorem doP_keeps (E : Env) (S : St) (s a n : Int) : Keeps S (doP E S s a n).1 := by
  have h1 := popS_keeps S
  unfold doP
  split
  · exact ⟨rfl, rfl, by simp [pushS]⟩
  split
  · simp only
    split
    · exact ⟨rfl, rfl, by simp [pushS]⟩
    · exact ⟨rfl, rfl, by omega⟩
  split
  · simp only
    split
    · exact ⟨rfl, rfl, by simp [pushS]⟩
    · exact ⟨rfl, rfl, by omega⟩
  split
  · simp only
    split
    · unfold setOut
      split
      · exact ⟨h1.1, h1.2.1, by simp; omega⟩
      split
      · exact ⟨h1.1, h1.2.1, by simp; omega⟩
      split
      · exact ⟨h1.1, h1.2.1, by simp; omega⟩
      · exact ⟨h1.1, h1.2.1, by simp; omega⟩
    · exact ⟨h1.1, h1.2.1, by omega⟩
  split
  · exact ⟨rfl, rfl, by simp [pushS]⟩
  · exact memoryP_keeps E S s a
/-- A byte, or what stands for one that is none. -/
theorem rdL_bytes {b : List Int} (hb : ∀ x ∈ b, 0 ≤ x ∧ x < 256) (p : Int) : 0 ≤ (rdL b p).1.2.2.2.1 ∧ (rdL b p).1.2.2.2.1 < 256 := by
  have hg : ∀ i, 0 ≤ b.getD i 0 ∧ b.getD i 0 < 256 := fun i => by
    rw [List.getD_eq_getElem?_getD]
    cases hx : b[i]? with
    | none => simp
    | some x => exact hb x (List.mem_of_getElem? hx)
  unfold rdL rd
  split
  · simp
  split
  · simp
  split
  · simp
  · simp only
    split
    · exact hg _
    · simp
theorem rdL_sign {b : List Int} {p x : Int} (h : (rdL b p).1.2.2.1 = x) (hx : x ≠ 0) : x ∈ b := by
  unfold rdL rd at h
  split at h
  · simp at h; omega
  split at h
  · simp at h; omega
  split at h
  · simp at h; omega
  · simp only at h
    rw [List.getD_eq_getElem?_getD] at h
    cases hy : b[p.toNat]? with
    | none => rw [hy] at h; simp at h; omega
    | some y => rw [hy] at h; simp at h; rw [← h]; exact List.mem_of_getElem? hy
/-- What a run is left with is no more than before. -/
theorem execP_left (E : Env) : ∀ (f : Nat) (b : List Int) (p : Int) (S : St), (execP E f b p S).1.left ≤ S.left ∧ (execP E f b p S).1.used + (execP E f b p S).1.left = S.used + S.left := by
  intro f
  induction f with
  | zero => intro b p S; simp [execP]
  | succ f ih =>
    intro b p S
    have hs : S.left ≠ 0 → S.used + 1 + (S.left - 1) = S.used + S.left := fun h => by omega
    unfold execP
    split
    · simp
    rename_i h0
    have hs := hs h0
    split
    · simp
    split
    · simp; omega
    split
    · have h := ih b (rdL b p).1.2.2.2.1 { S with left := S.left - 1, used := S.used + 1 }
      simp only at h
      omega
    split
    · have h1 := popS_keeps { S with left := S.left - 1, used := S.used + 1 }
      have h := ih b (if (popS { S with left := S.left - 1, used := S.used + 1 }).1.2 = 0 then (rdL b p).1.2.2.2.1 else (rdL b p).1.2.1) (popS { S with left := S.left - 1, used := S.used + 1 }).2
      simp only at h1
      omega
    split
    · have h := ih (E.funcs.getD (rdL b p).1.2.2.2.1.toNat []) 0 { S with left := S.left - 1, used := S.used + 1, stk := [] }
      generalize execP E f (E.funcs.getD (rdL b p).1.2.2.2.1.toNat []) 0 { S with left := S.left - 1, used := S.used + 1, stk := [] } = A at *
      have h2 := ih b (rdL b p).1.2.1 { A.1 with stk := S.stk }
      have e1 : A.1.left ≤ S.left - 1 := h.1
      have e2 : A.1.used + A.1.left = S.used + 1 + (S.left - 1) := h.2
      split
      · split
        · have e3 : (execP E f b (rdL b p).1.2.1 { A.1 with stk := S.stk }).1.left ≤ A.1.left := h2.1
          have e4 : (execP E f b (rdL b p).1.2.1 { A.1 with stk := S.stk }).1.used + (execP E f b (rdL b p).1.2.1 { A.1 with stk := S.stk }).1.left = A.1.used + A.1.left := h2.2
          omega
        · exact ⟨show A.1.left ≤ S.left by omega, show A.1.used + A.1.left = S.used + S.left by omega⟩
      · exact ⟨show S.left - 1 ≤ S.left by omega, show S.used + 1 + (S.left - 1) = S.used + S.left by omega⟩
    have hk := doP_keeps E { S with left := S.left - 1, used := S.used + 1 } (rdL b p).1.2.2.1 (rdL b p).1.2.2.2.1 (rdL b p).1.2.2.2.2
    have hk1 := hk.left
    have hk2 := hk.used
    simp only at hk1 hk2
    split
    · have h := ih b (rdL b p).1.2.1 (doP E { S with left := S.left - 1, used := S.used + 1 } (rdL b p).1.2.2.1 (rdL b p).1.2.2.2.1 (rdL b p).1.2.2.2.2).1
      omega
    · omega
end Go.Proofs.YtngobbbinacomaaDoor
