/- Chapter 14: an environment of numbers. -/
import Derived.Test.YtngobbbinacomaaDoorS14
import Derived.Test.YtngobbbinacomaaDoorRC8
import Derived.Deep.RegionHeld3
import Derived.BigRegion
namespace Go.Proofs.YtngobbbinacomaaDoor
open Go.RowKit Go.Proofs.YtngobbbinacomaaDoor.c11 Go.Proofs.YtngobbbinacomaaDoor.c10
set_option linter.unusedVariables false
set_option linter.unusedSimpArgs false
attribute [local go_sem ↓] Go.wp_at_zero Go.wp_at_succ

theorem own_setIn {w : World} {base g n cap j : Nat} {e : TypeId} {xs : List Value} (h : w.ownsRow base e 1 (.slice (some ⟨g, 0, none⟩) n cap) n xs) (hj : j < n) (u : Value) : (w.setCell ⟨g, j, none⟩ u).ownsRow base e 1 (.slice (some ⟨g, 0, none⟩) n cap) n (xs.set j u) := by
  refine ⟨by simpa using h.1, ?_⟩
  rcases h.2 with ⟨h0, _⟩ | ⟨g', cap', cur, hv, hb, hg, h1, h2, h3, h4⟩
  · cases h0
  · injection hv with e1 e2 e3
    injection e1 with e1
    injection e1 with e1
    subst e1 e3
    refine .inr ⟨g, cap, cur.setIfInBounds j u, rfl, hb, blk_set hg j u, h1, h2, by simpa using h3, ?_⟩
    rw [Array.toList_setIfInBounds, ← h4, List.take_set]
theorem own_cellJ {w : World} {base g n cap j : Nat} {e : TypeId} {xs : List Value} (h : w.ownsRow base e 1 (.slice (some ⟨g, 0, none⟩) n cap) n xs) {u : Value} (hu : xs[j]? = some u) : w.cell? ⟨g, j, none⟩ = some u ∧ w.frozen? ⟨g, j, none⟩ = false := by
  refine ⟨?_, ?_⟩
  · have h' := h.cells rfl j u hu
    rw [Addr.add_lit] at h'
    simpa using h'
  · rcases h.2 with ⟨h0, _⟩ | ⟨g', cap', cur, hv, hb, hg, _⟩
    · cases h0
    · injection hv with e1 e2 e3
      injection e1 with e1
      injection e1 with e1
      subst e1
      exact frozen_of_row w g j _ _ hg

/-- Cells of numbers: the first n of them are wrapped numbers. -/
def envN (l : List CellD) (n : Nat) (z : Nat → Int) : List Int := (List.range l.length).map fun i => if i < n then wrapK (cellD l i).kind (z i) else (cellD l i).init
theorem envN_len (l : List CellD) (n : Nat) (z : Nat → Int) : (envN l n z).length = l.length := by simp [envN]
theorem envN_zero (l : List CellD) (z : Nat → Int) : envN l 0 z = l.map CellD.init := by
  apply List.ext_getElem?
  intro i
  unfold envN
  rw [List.getElem?_map, List.getElem?_map]
  by_cases h : i < l.length
  · rw [List.getElem?_range h, List.getElem?_eq_getElem h]
    have hc : cellD l i = l[i] := by
      unfold cellD
      rw [if_neg (by omega), Int.toNat_natCast, List.getD_eq_getElem?_getD, List.getElem?_eq_getElem h]
      rfl
    simp [hc]
  · rw [List.getElem?_eq_none (by simp; omega), List.getElem?_eq_none (by omega)]
    rfl
theorem envN_set (l : List CellD) (n : Nat) (z : Nat → Int) (h : n < l.length) : (envN l n z).set n (wrapK (cellD l n).kind (z n)) = envN l (n + 1) z := by
  apply List.ext_getElem?
  intro i
  rw [List.getElem?_set]
  by_cases hi : i < l.length
  · unfold envN
    rw [List.getElem?_map, List.getElem?_map, List.getElem?_range hi]
    by_cases hn : n = i
    · subst hn
      simp [h]
    · rw [if_neg hn]
      simp only [Option.map_some]
      by_cases h1 : i < n
      · rw [if_pos h1, if_pos (by omega)]
      · rw [if_neg h1, if_neg (by omega)]
  · have hl := envN_len l n z
    have hl' := envN_len l (n + 1) z
    rw [if_neg (by omega), List.getElem?_eq_none (by omega), List.getElem?_eq_none (by omega)]
theorem envN_min (l : List CellD) (n : Nat) (z : Nat → Int) (h : l.length ≤ n) : envN l n z = envN l l.length z := by
  unfold envN
  apply List.map_congr_left
  intro i hi
  have := List.mem_range.1 hi
  rw [if_pos (by omega), if_pos (by omega)]

def CellsRel (w2 : World) (B : Nat) (l : List CellD) (top : Nat) (z : Nat → Int) (g cap : Nat) (i : Value) (wr : World) : Prop :=
  ∃ j : Nat, i = .int .i64 j ∧ j ≤ top ∧ wr.ownsRow B 3 1 (.slice (some ⟨g, 0, none⟩) l.length cap) l.length ((envN l j z).map (Value.int .i64)) ∧ Below B w2 wr

set_option maxHeartbeats 8000000 in
set_option maxRecDepth 100000 in
/-- An environment of numbers. -/
theorem lcellsN_any (SA : Option Addr) (n c : Nat) (l : List SymD) (Ca Fa : Option Addr) (nc cc nf cf : Nat) (NA : Option Addr) (nl nlc : Nat) (z : Nat → Int) (w : World) (hs : Syms w w.heap.size SA n l) (hn : n ≤ 10000) (hc : n ≤ c) (hcm : c ≤ 9223372036854775807) (hz : ∀ s ∈ l, s.size ≤ 64) (hpos : 0 < (cellsOf l).length) (hns : Came w NA nl nlc fun j => .int .i64 (z j)) :
    Calls Tryd.prog 20 #[.agg #[.slice SA n c, .slice Ca nc cc, .slice Fa nf cf], .slice NA nl nlc] w fun e w' => ∃ v, e = .returned v ∧ w'.ownsRow w.heap.size 3 1 v (cellsOf l).length ((envN (cellsOf l) nl z).map (Value.int .i64)) ∧ Below w.heap.size w w' := by
  have RC := Lib.hid (fun u (h : Syms u u.heap.size SA n l) => rcells_any SA n c l u h hn hc hcm hz)
  have HS := Lib.hid hs
  have hcl : (cellsOf l).length ≤ 1000000 := by
    have := cellsOf_length_le l
    have := hs.len
    omega
  have hnc1 := hns.le
  have hnc2 := hns.max
  have HNS := Lib.hid hns
  clear hs hz hns
  go_enter Tryd.func20, Tryd.ntmps20
  go_wp2_with fail
  refine (RC.out _ (by first | exact HS.out | exact (HS.out.below ((Below.refl _ w).alloc (Nat.le_refl _) _)).moreS (by simp))).mono ?_
  rintro e w1 ⟨v, rfl, hown, hb⟩
  obtain ⟨A, c1, rfl, h1, h2⟩ := own_slice hown
  unfold maxLen at h2
  have HB1 := Lib.hid (show Below w.heap.size w w1 from by first | exact hb | exact ((Below.refl _ w).alloc (Nat.le_refl _) _).trans (hb.mono (by simp)))
  have hrl := Row.of_own hown
  have HRL := Lib.hid hrl
  have BG := Lib.hid (rbegin_any A (cellsOf l).length c1 (cellsOf l) w1 hrl hcl rfl h1 (by omega))
  clear hown hb hrl
  go_wp2_with fail
  refine BG.out.mono ?_
  rintro e w2 ⟨v2, rfl, hown2, hb2⟩
  obtain ⟨g, c2, rfl, hg1, hg2⟩ := hown2.form hpos
  obtain ⟨_, c2', hx0, h3, h4⟩ := own_slice hown2
  obtain rfl : c2 = c2' := by injection hx0
  unfold maxLen at h4
  have hz1 := HB1.out.size
  have hz2 := hb2.size
  have HB2 := Lib.hid (HB1.out.trans (hb2.mono hz1))
  have HRL2 := Lib.hid ((HRL.out.below hb2))
  have HO2 := Lib.hid hown2
  generalize hL : cellsOf l = L at *
  obtain ⟨cb, co, hA, hcb, -⟩ := HRL2.out.2 hpos
  subst hA
  have h3I : (L.length : Int) ≤ c2 := by omega
  have h1I : (L.length : Int) ≤ c1 := by omega
  have hncI : (nl : Int) ≤ nlc := by omega
  have HLL := Lib.hid hL
  clear hown2 hb2 hx0 hL
  go_wp2_with fail
  go_loopw [7] (fun i wr => CellsRel w2 w1.heap.size L (min L.length nl) z g c2 i wr) (fun i _ => min L.length nl - (intOf i).toNat)
  case atStart => exact ⟨0, rfl, Nat.zero_le _, by rw [envN_zero]; exact HO2.out, Below.refl _ _⟩
  case round =>
    obtain ⟨j, rfl, hj, hown, hbw⟩ := hrel
    have HOW := Lib.hid hown
    have HBW := Lib.hid hbw
    by_cases hjl : j < min L.length nl
    · have hj1 : (j : Int) < L.length := by omega
      have hj2 : (j : Int) < nl := by omega
      obtain ⟨x, hx⟩ : ∃ x, L[j]? = some x := ⟨_, List.getElem?_eq_getElem (by omega)⟩
      obtain ⟨cb', co', hA', _, hcc⟩ := HRL2.out.2 hpos
      injection hA' with hA'
      injection hA' with q1 q2
      subst q1 q2
      have e1 : wr.cell? ⟨cb, co + j * 6 + 1, none⟩ = some (.int .i64 x.kind) := by
        have h := hcc (j * 6 + 1) _ ((flat_get cellCells 6 cellCells_length L j 1 x hx (by omega)).trans rfl)
        rw [← Nat.add_assoc] at h
        exact (dcell hbw hcb _).trans h
      obtain ⟨nb, no, hNA, hnb, hnc⟩ := HNS.out.at_ (by omega)
      have e2 : wr.cell? ⟨nb, no + j, none⟩ = some (.int .i64 (z j)) := (dcell hbw (by omega) _).trans ((dcell HB2.out hnb _).trans (hnc j (by omega)))
      obtain ⟨y, hy⟩ : ∃ y, (envN L j z)[j]? = some y := ⟨_, List.getElem?_eq_getElem (by rw [envN_len]; omega)⟩
      obtain ⟨e3, e4⟩ := own_cellJ (j := j) hown (u := .int .i64 y) (by rw [List.getElem?_map, hy]; rfl)
      have hkd : (cellD L j).kind = x.kind := by
        unfold cellD
        rw [if_neg (by omega), Int.toNat_natCast, List.getD_eq_getElem?_getD, hx]
        rfl
      have HST := Lib.hid (envN_set L j z (by omega))
      rw [hkd] at HST
      have WR := Lib.hid (fun W => rwrap_any x.kind (z j) W)
      generalize wrapK x.kind (z j) = wx at *
      have hjlt : j < L.length := by omega
      subst hNA
      clear hown hbw hx hcc hnc hkd hy
      go_wp2_with fail
      go_region_with (go_at_call 26; (with_reducible refine (WR.out _).mono ?_); rintro e _ ⟨rfl, rfl⟩)
      all_goals (go_wp2_with fail; go_roundw; (case rel => (refine ⟨j + 1, rfl, by omega, ?_, ?_⟩; (rw [← HST.out, List.map_set]; exact own_setIn HOW.out hjlt _); (repeat (first | (with_reducible exact HBW.out) | (with_reducible refine Below.setCell ?_ hg1 _) | (with_reducible refine Below.drew ?_) | (with_reducible refine below_dN _ ?_))))); (case measure => (simp [intOf]; omega)))
    · have hje : j = min L.length nl := by omega
      have hnot : ¬ (j : Int) < L.length ∨ ((j : Int) < L.length ∧ ¬ (j : Int) < nl) := by omega
      have heq : envN L j z = envN L nl z := by
        rw [hje]
        rcases Nat.le_total L.length nl with h | h
        · rw [Nat.min_eq_left h, envN_min L nl z h]
        · rw [Nat.min_eq_right h]
      rw [heq] at hown
      have HON := Lib.hid (own_mono8 hown hz1)
      clear hown hbw hje heq
      rcases hnot with hn1 | ⟨hn1, hn2⟩
      all_goals
        go_wp2_with fail
        go_ret
        exact ⟨.slice (some ⟨g, 0, none⟩) L.length c2, rfl, by rw [HLL.out]; exact HON.out, HB2.out.trans (HBW.out.mono hz1)⟩
end Go.Proofs.YtngobbbinacomaaDoor
