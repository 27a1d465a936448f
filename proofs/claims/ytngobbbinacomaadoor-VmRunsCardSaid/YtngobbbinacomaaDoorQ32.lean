/- Chapter 14: a block. -/
import Derived.Test.YtngobbbinacomaaDoorQ16
import Derived.Laws.CopyOwn
import Derived.Laws.CopyRow
import Derived.Laws.Cover3
import Derived.Deep.RegionWith
import Derived.Deep.DeepCutAuto
namespace Go.Proofs.YtngobbbinacomaaDoor
open Go.RowKit Go.Proofs.YtngobbbinacomaaDoor.c11 Go.Proofs.YtngobbbinacomaaDoor.c13
set_option linter.unusedVariables false
set_option linter.unusedSimpArgs false
attribute [local go_sem ↓] Go.wp_at_zero Go.wp_at_succ
/-- Numbers written one behind the other. -/
def setsL (l : List Int) (k : Nat) : List Int → List Int
  | [] => l
  | v :: vs => setsL (l.set k v) (k + 1) vs
def setCells (w : World) (g k : Nat) : List Int → World
  | [] => w
  | v :: vs => setCells (w.setCell ⟨g, k, none⟩ (.int .i64 v)) g (k + 1) vs
theorem setsL_eq : ∀ (vs l : List Int) (k : Nat), k + vs.length ≤ l.length → setsL l k vs = l.take k ++ (vs ++ l.drop (k + vs.length)) := by
  intro vs
  induction vs with
  | nil => intro l k h; simp [setsL]
  | cons v vs ih =>
    intro l k h
    simp only [List.length_cons] at h
    rw [setsL, ih _ _ (by simp; omega)]
    have h1 : (l.set k v).take (k + 1) = l.take k ++ [v] := by
      rw [List.take_add_one, List.take_set_of_le (Nat.le_refl k), List.getElem?_set_self (by omega)]
      rfl
    have h2 : (l.set k v).drop (k + 1 + vs.length) = l.drop (k + (vs.length + 1)) := by
      rw [List.drop_set_of_lt (by omega)]
      congr 1
      omega
    rw [h1, h2]
    simp
theorem setCells_row (g : Nat) (t : TypeId) : ∀ (vs : List Int) (k : Nat) (w : World) (cur : Array Value), w.heap[g]? = some (.cells cur t (0, 0)) → k + vs.length ≤ cur.size →
    setCells w g k vs = w.setRow g (cur.toList.take k ++ vs.map (Value.int .i64) ++ cur.toList.drop (k + vs.length)).toArray := by
  intro vs
  induction vs with
  | nil =>
    intro k w cur hg hk
    simp only [setCells, List.map_nil, List.append_nil, List.length_nil, Nat.add_zero, List.take_append_drop, Array.toArray_toList]
    rw [setRow_self w g cur t (0, 0) hg]
  | cons v vs ih =>
    intro k w cur hg hk
    simp only [List.length_cons] at hk
    have hs := setCell_eq_setRow w g k cur t (0, 0) (.int .i64 v) hg
    rw [setCells, hs, ih (k + 1) _ (cur.setIfInBounds k (.int .i64 v)) (setRow_heap w g cur _ t _ hg) (by simp; omega), setRow_setRow]
    have e := list_seg_step cur.toList k (.int .i64 v) (vs.map (Value.int .i64)) (by simp; omega)
    congr 2
    simpa [Array.toList_setIfInBounds, Nat.add_assoc] using e
theorem Mach.sets {M : Who} {K : Nat} {sv kv : Value} {cb cap : Nat} : ∀ (vs : List Int) (k : Nat) (w : World) (S : St), Mach M w K sv kv S → M.C = .slice (some ⟨cb, 0, none⟩) S.cells.length cap →
    Mach M (setCells w cb k vs) K sv kv { S with cells := setsL S.cells k vs } ∧ Step M K w sv kv (setCells w cb k vs) sv kv := by
  intro vs
  induction vs with
  | nil => intro k w S h hC; exact ⟨h, Step.refl⟩
  | cons v vs ih =>
    intro k w S h hC
    obtain ⟨h1, h2⟩ := h.store hC k v
    obtain ⟨h3, h4⟩ := ih (k + 1) _ _ h1 (by simpa using hC)
    exact ⟨h3, h2.trans h4⟩
theorem intInfo1 : (Tryd.prog.info? 3).map (·.size) = some 1 := by kernel_rfl
theorem intsTy : Tryd.prog.underlying 22 = some (.slice 3) := by kernel_rfl
theorem arr6Ty : Tryd.prog.underlying 60 = some (.array 6 3) := by kernel_rfl
/-- Six numbers copied onto a row. -/
theorem run_copy6 (w : World) (ty : TypeId) (g o n cap : Nat) (a : Addr) (c' : Nat) (t : TypeId) (cur : Array Value) (hg : w.heap[g]? = some (.cells cur t (0, 0))) (d0 d1 d2 d3 d4 d5 : Int) (hn : 6 ≤ n) (hfit : o + 6 ≤ cur.size)
    (hsrc : ∀ j v, ([d0, d1, d2, d3, d4, d5].map (Value.int .i64))[j]? = some v → w.cell? (a.add j) = some v) :
    (Builtin.copy_ #[22, 22] ty #[.slice (some ⟨g, o, none⟩) n cap, .slice (some a) 6 c']).run Tryd.prog w = .ok (goInt 6) (setCells w g o [d0, d1, d2, d3, d4, d5]) := by
  rw [run_copy_row Tryd.prog w 22 22 ty 3 g o n cap a 6 c' cur t _ intsTy intInfo1 hg (by simp [Nat.min_def]; omega) hsrc (by simpa using hfit) (by simp [Value.oneCell']), setCells_row g t _ o w cur hg (by simpa using hfit)]
  simp
set_option maxHeartbeats 8000000 in
set_option maxRecDepth 100000 in
theorem block_any (M : Who) (K : Nat) (S : St) (j : Nat) (hj : j ≤ 1000000) : BlockAt M K S j := by
  intro w sv kv h
  obtain ⟨Ac, cc, hC, hcc, hcm⟩ := own_slice h.cells
  unfold maxLen at hcm
  have m0 : w.cell? ⟨M.g, 0, none⟩ = some (.slice Ac S.cells.length cc) := by rw [← hC]; exact h.cell 0
  have hlen : (S.cells.length : Int) ≤ 9223372036854775807 := by omega
  have AT := Lib.hid (fun k => at_any M.g S.cells.length cc Ac k w m0 hlen)
  by_cases n1 : ¬ isAt S.cells.length j = true
  · have n1' : isAt S.cells.length j = false := by simpa using n1
    rw [show blockP M.E S j = S by unfold blockP; rw [if_neg (fun hh => n1 hh.1)]]
    have A1 := AT.out j
    rw [n1'] at A1
    have HL := Lib.hid h.left
    clear h n1 n1' hC
    go_enter Tryd.func98, Tryd.ntmps98
    go_wp2_with (go_at_call 95; refine A1.mono ?_; rintro e wx ⟨rfl, hwx⟩; obtain rfl : w = wx := hwx.symm)
    first | (go_end0; exact ⟨rfl, HL.out⟩) | exact bodyPost_ret (v := .tuple #[]) (by simp [results, Tryd.results98, go_sem]) rfl ⟨rfl, HL.out⟩
  by_cases n2 : ¬ isAt S.cells.length ((j : Int) + 6 - 1) = true
  · have n1' : isAt S.cells.length j = true := Classical.not_not.1 n1
    have n2' : isAt S.cells.length ((j : Int) + 6 - 1) = false := by simpa using n2
    rw [show blockP M.E S j = S by unfold blockP; rw [if_neg (fun hh => n2 (by rw [← hh.2]; congr 1; omega))]]
    have A1 := AT.out j
    have A2 := AT.out ((j : Int) + 6 - 1)
    rw [n1'] at A1
    rw [n2'] at A2
    have HL := Lib.hid h.left
    have HA1 := Lib.hid A1
    have HA2 := Lib.hid A2
    clear h n1 n1' n2 n2' hC A1 A2
    go_enter Tryd.func98, Tryd.ntmps98
    go_wp2_with (go_at_call 95; first | (with_reducible refine (HA1.out).mono ?_; rintro e wx ⟨rfl, hwx⟩; obtain rfl : w = wx := hwx.symm) | (with_reducible refine (HA2.out).mono ?_; rintro e wx ⟨rfl, hwx⟩; obtain rfl : w = wx := hwx.symm))
    first | (go_end0; exact ⟨rfl, HL.out⟩) | exact bodyPost_ret (v := .tuple #[]) (by simp [results, Tryd.results98, go_sem]) rfl ⟨rfl, HL.out⟩
  have h1 := Classical.not_not.1 n1
  have h2 := Classical.not_not.1 n2
  clear n1 n2
  have A1 := AT.out j
  have A2 := AT.out ((j : Int) + 6 - 1)
  rw [h1] at A1
  rw [h2] at A2
  have HA1 := Lib.hid A1
  have HA2 := Lib.hid A2
  clear A1 A2 AT
  have hj6 : j + 6 ≤ S.cells.length := by
    simp [isAt] at h2
    omega
  obtain ⟨cb, cap, hC', hcbK, hcbg, hcap, hcf, hcl⟩ := h.row (by omega)
  have hA : Ac = some ⟨cb, 0, none⟩ ∧ cc = cap := by rw [hC] at hC'; injection hC' with e1 _ e3; exact ⟨e1, e3⟩
  obtain ⟨rfl, rfl⟩ := hA
  have hcc' : (S.cells.length : Int) ≤ cc := by omega
  have hj6' : (j : Int) + 6 ≤ S.cells.length := by omega
  have hcell : ∀ i, i < 6 → w.cell? ⟨cb, j + i, none⟩ = some (.int .i64 (S.cells.getD (j + i) 0)) := fun i hi => (hcl (j + i) _ (by rw [List.getD_eq_getElem?_getD, List.getElem?_eq_getElem (by omega)]; rfl)).1
  have b0 := hcell 0 (by omega)
  have b1 := hcell 1 (by omega)
  have b2 := hcell 2 (by omega)
  have b3 := hcell 3 (by omega)
  have b4 := hcell 4 (by omega)
  have b5 := hcell 5 (by omega)
  simp only [Nat.add_zero] at b0
  have HP := Lib.hid (show blockP M.E S j = { S with cells := S.cells.take j ++ (blockC M.E (cellD M.E.lay j).block (S.cells.getD j 0) (S.cells.getD (j + 1) 0) (S.cells.getD (j + 2) 0) (S.cells.getD (j + 3) 0) (S.cells.getD (j + 4) 0) (S.cells.getD (j + 5) 0) ++ S.cells.drop (j + 6)) } by
    unfold blockP
    rw [if_pos ⟨h1, by rw [← h2]; congr 1; omega⟩]
    simp)
  generalize S.cells.getD j 0 = c0 at *
  generalize S.cells.getD (j + 1) 0 = c1 at *
  generalize S.cells.getD (j + 2) 0 = c2 at *
  generalize S.cells.getD (j + 3) 0 = c3 at *
  generalize S.cells.getD (j + 4) 0 = c4 at *
  generalize S.cells.getD (j + 5) 0 = c5 at *
  have CL := Lib.hid (fun u (hu : Mach M u K sv kv S) => cell_any M u K sv kv S hu j)
  have m13 : w.cell? ⟨M.g, 13, none⟩ = some (.int .i64 M.E.now) := h.cell 13
  have aa : ∀ (W : World) (a : Option Addr) (cap : Nat), (Instr.arrayAt 60 (.slice a 6 cap)).run Tryd.prog W = .ok (.pointer a) W := fun W a cap => run_arrayAt W 60 3 6 a 6 cap arr6Ty (Nat.le_refl _)
  generalize cellD M.E.lay j = x at *
  have fb : ∀ W : World, (Instr.field 42 (.agg #[.string x.path, .int .i64 x.kind, .bool x.retain, .int .i64 x.init, .int .i64 x.len, .int .i64 x.block]) 5).run Tryd.prog W = .ok (.int .i64 x.block) W := fun W => field_block _ _ _ _ _ _ W
  have hgw := h.gw
  have HM := Lib.hid h
  have HCL := Lib.hid hcl
  have HJ6 := Lib.hid hj6
  clear h hcl hcell h1 h2 hj6
  go_enter Tryd.func98, Tryd.ntmps98
  go_upto_region 2 with (go_at_call 95; first | (with_reducible refine (HA1.out).mono ?_; rintro e wx ⟨rfl, hwx⟩; obtain rfl : w = wx := hwx.symm) | (with_reducible refine (HA2.out).mono ?_; rintro e wx ⟨rfl, hwx⟩; obtain rfl : w = wx := hwx.symm))
  obtain ⟨wa, hwa⟩ : ∃ x : World, x = w.alloc (.cells #[.int .i64 c0, .int .i64 c1, .int .i64 c2, .int .i64 c3, .int .i64 c4, .int .i64 c5] 60) := ⟨_, rfl⟩
  have HS0 := Lib.hid (show Six wa w.heap.size c0 c1 c2 c3 c4 c5 by rw [hwa]; constructor <;> go_simp)
  have hza : w.heap.size < wa.heap.size := by rw [hwa]; simp
  have HBA := Lib.hid (show Below w.heap.size w wa by rw [hwa]; exact (Below.refl _ _).alloc (Nat.le_refl _) _)
  rw [← hwa]
  clear hwa
  go_upto_block 0 with (go_at_call 96; refine (CL.out _ (HM.out.below HBA.out)).mono ?_; rintro e wc ⟨rfl, hbc⟩; have HBC := Lib.hid hbc; clear hbc)
  have hzc := HBC.out.size
  have HS1 := Lib.hid (show Six wc w.heap.size c0 c1 c2 c3 c4 c5 from by
    obtain ⟨k0, k1, k2, k3, k4, k5, f0, f1, f2, f3, f4, f5⟩ := HS0.out
    have e := fun o => dcell HBC.out hza o
    have f := fun o => dfroz HBC.out hza o
    exact ⟨(e _).trans k0, (e _).trans k1, (e _).trans k2, (e _).trans k3, (e _).trans k4, (e _).trans k5, (f _).trans f0, (f _).trans f1, (f _).trans f2, (f _).trans f3, (f _).trans f4, (f _).trans f5⟩)
  have HBW := Lib.hid (HBA.out.trans (HBC.out.mono (Nat.le_of_lt hza)))
  have n13 : wc.cell? ⟨M.g, 13, none⟩ = some (.int .i64 M.E.now) := (dcell HBW.out hgw 13).trans m13
  have n0 : wc.cell? ⟨M.g, 0, none⟩ = some (.slice (some ⟨cb, 0, none⟩) S.cells.length cc) := (dcell HBW.out hgw 0).trans m0
  have hzw : w.heap.size < wc.heap.size := by omega
  have m0' := Lib.hid m0
  clear m13 m0
  clear fb
  generalize x.block = bk at *
  go_cut [] (fun wx => ∃ d0 d1 d2 d3 d4 d5, blockC M.E bk c0 c1 c2 c3 c4 c5 = [d0, d1, d2, d3, d4, d5] ∧ Six wx w.heap.size d0 d1 d2 d3 d4 d5 ∧ Below w.heap.size w wx ∧ w.heap.size < wx.heap.size)
  case first =>
    obtain ⟨k0, k1, k2, k3, k4, k5, f0, f1, f2, f3, f4, f5⟩ := HS1.out
    by_cases h9 : bk = 9
    · have h9' : (bk == 9) = true := by simpa using h9
      have HC := Lib.hid (show blockC M.E bk c0 c1 c2 c3 c4 c5 = _ by rw [blockC, if_pos h9])
      have TN := Lib.hid (fun u => ton_any c0 c1 c2 c3 c4 c5 M.E.now u)
      clear h9
      go_wp2_with fail
      go_region_with (go_at_call 104; refine (TN.out _).mono ?_; rintro e wd ⟨rfl, hb3⟩; have q0 := (dcell hb3 (show w.heap.size < _ from hzw) 0).trans k0; have g0 := (dfroz hb3 (show w.heap.size < _ from hzw) 0).trans f0; have q1 := (dcell hb3 (show w.heap.size < _ from hzw) 1).trans k1; have g1 := (dfroz hb3 (show w.heap.size < _ from hzw) 1).trans f1; have q2 := (dcell hb3 (show w.heap.size < _ from hzw) 2).trans k2; have g2 := (dfroz hb3 (show w.heap.size < _ from hzw) 2).trans f2; have q3 := (dcell hb3 (show w.heap.size < _ from hzw) 3).trans k3; have g3 := (dfroz hb3 (show w.heap.size < _ from hzw) 3).trans f3; have q4 := (dcell hb3 (show w.heap.size < _ from hzw) 4).trans k4; have g4 := (dfroz hb3 (show w.heap.size < _ from hzw) 4).trans f4; have q5 := (dcell hb3 (show w.heap.size < _ from hzw) 5).trans k5; have g5 := (dfroz hb3 (show w.heap.size < _ from hzw) 5).trans f5; have HBX := Lib.hid (show Below w.heap.size w wd from HBW.out.trans (Below.mono (show Below wc.heap.size wc wd from ⟨hb3.os, hb3.tape, hb3.output, hb3.size, hb3.block⟩) (Nat.le_of_lt hzw))); have hzd : w.heap.size < wd.heap.size := Nat.lt_of_lt_of_le hzw hb3.size; clear hb3 k0 k1 k2 k3 k4 k5 f0 f1 f2 f3 f4 f5)
      all_goals (try go_wp2_with fail)
      all_goals go_meet
      all_goals refine ⟨_, _, _, _, _, _, HC.out, (by constructor <;> go_simp), (by repeat (first | (with_reducible exact HBX.out) | (with_reducible exact HBW.out) | (with_reducible refine Below.setCell ?_ (by simp) _) | (with_reducible refine Below.drew ?_) | (with_reducible refine below_dn _ ?_))), (by simp; omega)⟩
    · have h9' : (bk == 9) = false := by simpa using h9
      by_cases h10 : bk = 10
      · have h10' : (bk == 10) = true := by simpa using h10
        have HC := Lib.hid (show blockC M.E bk c0 c1 c2 c3 c4 c5 = _ by rw [blockC, if_neg h9, if_pos h10])
        have TC := Lib.hid (fun u => ctu_any c0 c1 c2 c3 c4 c5 u)
        clear h9 h10
        go_wp2_with (go_at_call 105; refine (TC.out _).mono ?_; rintro e wd ⟨rfl, hb3⟩; have q0 := (dcell hb3 (show w.heap.size < _ from hzw) 0).trans k0; have g0 := (dfroz hb3 (show w.heap.size < _ from hzw) 0).trans f0; have q1 := (dcell hb3 (show w.heap.size < _ from hzw) 1).trans k1; have g1 := (dfroz hb3 (show w.heap.size < _ from hzw) 1).trans f1; have q2 := (dcell hb3 (show w.heap.size < _ from hzw) 2).trans k2; have g2 := (dfroz hb3 (show w.heap.size < _ from hzw) 2).trans f2; have q3 := (dcell hb3 (show w.heap.size < _ from hzw) 3).trans k3; have g3 := (dfroz hb3 (show w.heap.size < _ from hzw) 3).trans f3; have q4 := (dcell hb3 (show w.heap.size < _ from hzw) 4).trans k4; have g4 := (dfroz hb3 (show w.heap.size < _ from hzw) 4).trans f4; have q5 := (dcell hb3 (show w.heap.size < _ from hzw) 5).trans k5; have g5 := (dfroz hb3 (show w.heap.size < _ from hzw) 5).trans f5; have HBX := Lib.hid (show Below w.heap.size w wd from HBW.out.trans (Below.mono (show Below wc.heap.size wc wd from ⟨hb3.os, hb3.tape, hb3.output, hb3.size, hb3.block⟩) (Nat.le_of_lt hzw))); have hzd : w.heap.size < wd.heap.size := Nat.lt_of_lt_of_le hzw hb3.size; clear hb3 k0 k1 k2 k3 k4 k5 f0 f1 f2 f3 f4 f5)
        all_goals go_meet
        all_goals refine ⟨_, _, _, _, _, _, HC.out, (by constructor <;> go_simp), (by repeat (first | (with_reducible exact HBX.out) | (with_reducible exact HBW.out) | (with_reducible refine Below.setCell ?_ (by simp) _) | (with_reducible refine Below.drew ?_) | (with_reducible refine below_dn _ ?_))), (by simp; omega)⟩
      · have h10' : (bk == 10) = false := by simpa using h10
        have HC := Lib.hid (show blockC M.E bk c0 c1 c2 c3 c4 c5 = _ by rw [blockC, if_neg h9, if_neg h10])
        clear h9 h10
        go_wp2
        go_meet
        exact ⟨_, _, _, _, _, _, HC.out, HS1.out, HBW.out, hzw⟩
  case rest =>
  obtain ⟨d0, d1, d2, d3, d4, d5, hd, hs, hb, hz⟩ := hcut
  generalize hwd : wc = wd at *
  obtain ⟨k0, k1, k2, k3, k4, k5, f0, f1, f2, f3, f4, f5⟩ := hs
  have m0d : wd.cell? ⟨M.g, 0, none⟩ = some (.slice (some ⟨cb, 0, none⟩) S.cells.length cc) := (dcell hb hgw 0).trans m0'.out
  have HMD := Lib.hid (HM.out.below hb)
  have HBD := Lib.hid hb
  have HD := Lib.hid hd
  obtain ⟨cap2, cur, hcur, hcs⟩ : ∃ (cap2 : Nat) (cur : Array Value), wd.heap[cb]? = some (.cells cur 3 (0, 0)) ∧ j + 6 ≤ cur.size := by
    rcases HMD.out.cells.2 with ⟨h0, h1⟩ | ⟨g, cap2, cur, h1, h2, h3, h4, h5, h6, h7⟩
    · have := HJ6.out; omega
    · have hg : g = cb := by rw [hC] at h1; injection h1 with e1; injection e1 with e1; injection e1 with e1; exact e1.symm
      subst hg
      have := HJ6.out
      exact ⟨cap2, cur, h3, by omega⟩
  have cp : ∀ n, (Builtin.copy_ #[22, 22] 3 #[.slice (some ⟨cb, j, none⟩) (S.cells.length - j) (cc - j), .slice (some ⟨w.heap.size, 0, none⟩) 6 6]).run Tryd.prog (wd.drewN n) = .ok (goInt 6) (setCells (wd.drewN n) cb j [d0, d1, d2, d3, d4, d5]) := fun n =>
    run_copy6 (wd.drewN n) 3 cb j _ _ ⟨w.heap.size, 0, none⟩ 6 3 cur hcur d0 d1 d2 d3 d4 d5 (by have := HJ6.out; omega) hcs (fun i v hv => by
      rw [Addr.add_lit, Nat.zero_add]
      have hi : i < 6 := by have := (List.getElem?_eq_some_iff.1 hv).1; simpa using this
      rcases (show i = 0 ∨ i = 1 ∨ i = 2 ∨ i = 3 ∨ i = 4 ∨ i = 5 by omega) with rfl | rfl | rfl | rfl | rfl | rfl <;> (simp at hv; subst hv; assumption))
  have hjn : (j : Int) ≤ S.cells.length := by omega
  have hwn : wc = wd := hwd
  clear hwd hd hb hcur hcs
  have cp1 : (Builtin.copy_ #[22, 22] 3 #[.slice (some ⟨cb, j, none⟩) (S.cells.length - j) (cc - j), .slice (some ⟨w.heap.size, 0, none⟩) 6 6]).run Tryd.prog wd.drew = .ok (goInt 6) (setCells wd.drew cb j [d0, d1, d2, d3, d4, d5]) := cp 1
  have HLEFT := Lib.hid (fun n => show Left M K sv kv w (setCells (wd.drewN n) cb j [d0, d1, d2, d3, d4, d5]) (blockP M.E S j) by
    obtain ⟨hm, hs⟩ := Mach.sets [d0, d1, d2, d3, d4, d5] j (wd.drewN n) S (HMD.out.drewN n) hC
    have st1 : Step M K w sv kv (wd.drewN n) sv kv := Step.refl.below HM.out.kw (below_dn n HBD.out)
    rw [HP.out, HD.out]
    have e := setsL_eq [d0, d1, d2, d3, d4, d5] S.cells j (by have := HJ6.out; simpa using this)
    rw [e] at hm
    exact (st1.trans hs).mach hm)
  go_wp2_with fail
  go_region
  all_goals go_end0
  all_goals exact ⟨rfl, HLEFT.out 1⟩
theorem blocks_all (M : Who) (K : Nat) (S : St) (a : Int) (h0 : 0 ≤ a) (h1 : a ≤ 1000000) : BlockAt M K S a := by
  have h := block_any M K S a.toNat (by omega)
  rw [show ((a.toNat : Nat) : Int) = a by omega] at h
  exact h
end Go.Proofs.YtngobbbinacomaaDoor
