/- The document's chapter 8: a variable's cells. -/
import Derived.Test.YtgeeicgdgncmpaaDoorRA8
import Derived.Test.YtgeeicgdgncmpaaDoorD8
namespace Go.Proofs.YtgeeicgdgncmpaaDoor
open Go.RowKit
set_option linter.unusedVariables false
set_option linter.unusedSimpArgs false
attribute [local go_sem ↓] Go.wp_at_zero Go.wp_at_succ

/-- A cell before what it keeps, and what it begins with. -/
def SymD.pcell (s : SymD) (i : Nat) : CellD :=
  ⟨pathOf s.name s.kind s.fields i, kindOf s.kind s.elem s.fields i, false, 0, if i = 0 ∧ s.kind = 7 then s.n else 0, if i = 0 ∧ (s.kind = 9 ∨ s.kind = 10) then s.kind else 0⟩


theorem flat_set {α : Type} (f : α → List Value) (n : Nat) (hf : ∀ x, (f x).length = n) (u : Value) : ∀ (l : List α) (i j : Nat) (x x' : α), l[i]? = some x → j < n → f x' = (f x).set j u → (l.flatMap f).set (i * n + j) u = (l.set i x').flatMap f := by
  intro l
  induction l with
  | nil => intro i j x x' h; simp at h
  | cons y l ih =>
    intro i j x x' h hj he
    cases i with
    | zero =>
      simp at h
      subst h
      rw [List.set_cons_zero, List.flatMap_cons, List.flatMap_cons, Nat.zero_mul, Nat.zero_add, List.set_append_left _ _ (by rw [hf]; exact hj), he]
    | succ i =>
      simp at h
      rw [List.set_cons_succ, List.flatMap_cons, List.flatMap_cons, List.set_append_right _ _ (by rw [hf, Nat.succ_mul]; omega), hf]
      have e : (i + 1) * n + j - n = i * n + j := by rw [Nat.succ_mul]; omega
      rw [e, ih i j x x' h hj he]

def SymD.upto (s : SymD) (k j : Nat) : CellD := if j < k then s.cell j else s.pcell j
def SymD.half (s : SymD) (k : Nat) : CellD := { s.pcell k with retain := s.retain }
theorem SymD.half_cell (s : SymD) (k : Nat) (h : ¬ k < s.init.length) : s.half k = s.cell k := by
  have h0 : s.init[k]?.getD 0 = 0 := by rw [List.getElem?_eq_none (by omega)]; rfl
  simp [SymD.half, SymD.pcell, SymD.cell, h0]
theorem SymD.upto_zero (s : SymD) (n : Nat) : (List.range n).map (s.upto 0) = (List.range n).map s.pcell := by
  congr 1
theorem SymD.upto_all (s : SymD) (n : Nat) : (List.range n).map (s.upto n) = (List.range n).map s.cell := by
  apply List.map_congr_left
  intro j hj
  simp at hj
  simp [SymD.upto, hj]
theorem SymD.upto_set (s : SymD) (n k : Nat) (h : k < n) : ((List.range n).map (s.upto k)).set k (s.cell k) = (List.range n).map (s.upto (k + 1)) := by
  apply List.ext_getElem?
  intro j
  rw [List.getElem?_set]
  by_cases hj : k = j
  · subst hj
    simp [SymD.upto, h]
  · rw [if_neg hj]
    by_cases hn : j < n
    · rw [List.getElem?_map, List.getElem?_map, List.getElem?_range hn]
      simp only [Option.map_some, SymD.upto]
      congr 1
      by_cases h1 : j < k
      · rw [if_pos h1, if_pos (by omega)]
      · rw [if_neg h1, if_neg (by omega)]
    · rw [List.getElem?_eq_none (by simp; omega), List.getElem?_eq_none (by simp; omega)]
theorem SymD.set_half (s : SymD) (n k : Nat) (h : k < n) : (cellRow ((List.range n).map (s.upto k))).set (k * 6 + 2) (.bool s.retain) = cellRow (((List.range n).map (s.upto k)).set k (s.half k)) := by
  refine flat_set cellCells 6 cellCells_length _ _ k 2 (s.pcell k) (s.half k) ?_ (by omega) rfl
  rw [List.getElem?_map, List.getElem?_range h]
  simp [SymD.upto]
theorem SymD.set_full (s : SymD) (n k : Nat) (h : k < n) : (cellRow (((List.range n).map (s.upto k)).set k (s.half k))).set (k * 6 + 3) (.int .i64 (s.init.getD k 0)) = cellRow ((List.range n).map (s.upto (k + 1))) := by
  rw [← s.upto_set n k h, cellRow, flat_set cellCells 6 cellCells_length (.int .i64 (s.init.getD k 0)) _ k 3 (s.half k) (s.cell k) ?_ (by omega) rfl, List.set_set]
  · rfl
  · rw [List.getElem?_set_self (by simp; exact h)]

theorem own_mono8 {w : World} {b b' : Nat} {e : TypeId} {size n : Nat} {v : Value} {xs : List Value} (h : w.ownsRow b e size v n xs) (hb : b' ≤ b) : w.ownsRow b' e size v n xs := by
  refine ⟨h.1, ?_⟩
  rcases h.2 with h | ⟨g, cap, cur, h1, h2, h3⟩
  · exact .inl h
  · exact .inr ⟨g, cap, cur, h1, Nat.le_trans hb h2, h3⟩
theorem own_setFar8 {w : World} {base : Nat} {e : TypeId} {size n : Nat} {v : Value} {xs : List Value} (h : w.ownsRow base e size v n xs) {a : Addr} (ha : v.ownBlock ≠ some a.block) (u : Value) : (w.setCell a u).ownsRow base e size v n xs :=
  h.kept (row := some a.block) ⟨rfl, rfl, rfl, by simp [World.setCell], fun k _ hk => Below.heap_setCell w a u k (fun e => hk (by rw [e]))⟩ (.inr ha)
theorem keep3 {u1 W' : World} {B g b o : Nat} {v0 v1 v2 : Value} (hb : Below B u1 W') (h : g < B) (h2 : b < B) (k0 : u1.cell? ⟨g, 0, none⟩ = some v0) (k1 : u1.cell? ⟨b, o, none⟩ = some v1) (k2 : u1.cell? ⟨b, o + 1, none⟩ = some v2) :
    W'.cell? ⟨g, 0, none⟩ = some v0 ∧ W'.cell? ⟨b, o, none⟩ = some v1 ∧ W'.cell? ⟨b, o + 1, none⟩ = some v2 :=
  ⟨(dcell hb h 0).trans k0, (dcell hb h2 o).trans k1, (dcell hb h2 (o + 1)).trans k2⟩

def OfRel (w1 : World) (T : TypeId) (s : SymD) (l i : Value) (wr : World) : Prop :=
  ∃ k : Nat, i = .int .i64 k ∧ k ≤ s.count ∧ wr.ownsRow w1.heap.size T 6 l k (cellRow ((List.range k).map s.pcell)) ∧ Below w1.heap.size w1 wr
def FillRel (w1 : World) (T : TypeId) (s : SymD) (l : Value) (i : Value) (wr : World) : Prop :=
  ∃ k : Nat, i = .int .i64 k ∧ k ≤ s.count ∧ wr.ownsRow w1.heap.size T 6 l s.count (cellRow ((List.range s.count).map (s.upto k))) ∧ Below w1.heap.size w1 wr

set_option maxHeartbeats 8000000 in
set_option maxRecDepth 100000 in
theorem rof_any (s : SymD) (Fa : Option Addr) (Fc : Nat) (Ia : Option Addr) (Ic : Nat) (w : World) (hf : Row w w.heap.size 2 Fa s.fields.length (fieldRow s.fields)) (hfc : s.fields.length ≤ Fc) (hfm : Fc ≤ 9223372036854775807)
    (hi : Row w w.heap.size 1 Ia s.init.length (s.init.map (Value.int .i64))) (hic : s.init.length ≤ Ic) (him : Ic ≤ 9223372036854775807) (hok : s.Ok) (hsz : s.size ≤ 64) :
    Calls Tryd.prog 23 #[.agg #[.string s.name, .int .i64 s.kind, .int .i64 s.elem, .int .i64 s.n, .slice Fa s.fields.length Fc, .bool s.retain, .slice Ia s.init.length Ic]] w
      (RowBack w.heap.size 6 s.count (cellRow s.cells) w) := by
  obtain ⟨i0, hi0, hz0, hz1, hz2⟩ := info_parts cellInfo8
  have t27 := cellTy8
  have HF := Lib.hid hf
  have HI := Lib.hid hi
  have HOK := Lib.hid hok
  have HSZ := Lib.hid hsz
  clear hf hi hok hsz
  have h64 := s.count_le
  go_enter Tryd.func23, Tryd.ntmps23
  go_upto_block 0 with fail
  obtain ⟨w1, hw1⟩ : ∃ x : World, x = w.alloc (.cells #[.string s.name, .int .i64 s.kind, .int .i64 s.elem, .int .i64 s.n, .slice Fa s.fields.length Fc, .bool s.retain, .slice Ia s.init.length Ic] 34) := ⟨_, rfl⟩
  have HL := Lib.hid (show SymLoc w1 w.heap.size s Fa Fc Ia Ic by rw [hw1]; constructor <;> go_simp)
  have hz : w1.heap.size = w.heap.size + 1 := by rw [hw1]; simp
  have HB0 := Lib.hid (show Below w.heap.size w w1 by rw [hw1]; exact (Below.refl _ w).alloc (Nat.le_refl _) _)
  rw [← hw1]
  clear hw1
  have HF1 := Lib.hid ((HF.out.below HB0.out).more (show w.heap.size ≤ w1.heap.size by omega))
  have HI1 := Lib.hid ((HI.out.below HB0.out).more (show w.heap.size ≤ w1.heap.size by omega))
  have hlt1 : w.heap.size < w1.heap.size := by omega
  have HZ := Lib.hid hz
  clear hz
  go_cut [3] (fun v wx => wx.ownsRow w1.heap.size 36 6 v s.count (cellRow ((List.range s.count).map s.pcell)) ∧ Below w1.heap.size w1 wx)
  case first =>
    obtain ⟨l0, l1, l2, l3, l4, l5, l6⟩ := HL.out
    have V := Lib.hid (fun u => rvalueK_any s.kind u)
    by_cases hv : 1 ≤ s.kind ∧ s.kind ≤ 6
    · have hv' : isVal s.kind = true := by simp [isVal, hv]
      rw [hv'] at V
      have hc1 : s.count = 1 := by unfold SymD.count SymD.size sizeOf8; rw [if_pos hv]; rfl
      have hp : s.pcell 0 = ⟨s.name, s.kind, false, 0, 0, 0⟩ := by
        have h7 : ¬ s.kind = 7 := by omega
        have h8 : ¬ s.kind = 8 := by omega
        have h9 : ¬ s.kind = 9 := by omega
        have h10 : ¬ s.kind = 10 := by omega
        simp [SymD.pcell, pathOf, kindOf, fieldsOf, h7, h8, h9, h10]
      have HP := Lib.hid hp
      have HC1 := Lib.hid hc1
      clear hv hv' hp hc1
      go_wp2_with fail
      refine (V.out _).mono ?_
      rintro e _ ⟨rfl, rfl⟩
      go_wp2_with (at_builtin; refine wpList_append_own _ rfl _ _ 26 rfl w1.heap.size 36 i0 _ 6 56 t27 hi0 hz0 hz1 hz2 rfl (by decide) _ 0 [] rfl (World.ownsRow_nil _ _ _ _) ⟨_, 0, none⟩ 1 1 (cellCells ⟨s.name, s.kind, false, 0, 0, 0⟩) rfl ?qa1 ?qa2 ?qa3 ?qa4 ?qa5 ?qa6 ?_)
      case qa1 => rfl
      case qa2 =>
        intro i u hj
        try rw [Addr.add_lit]
        have hj' : i < 6 := by have := (List.getElem?_eq_some_iff.1 hj).1; simpa [cellCells] using this
        rcases (show i = 0 ∨ i = 1 ∨ i = 2 ∨ i = 3 ∨ i = 4 ∨ i = 5 by omega) with rfl | rfl | rfl | rfl | rfl | rfl <;> (simp [cellCells] at hj; subst hj; go_simp)
      case qa3 => exact cellCells_one _
      case qa4 => unfold maxLen; omega
      case qa5 => omega
      case qa6 => first | omega | (simp; done) | (simp; omega)
      intro v' w2 hown hgrow hnil
      have HO := Lib.hid hown
      have HB := Lib.hid (show Below w1.heap.size w1 w2 from ((Below.refl _ w1).alloc (Nat.le_refl _) _).grown hgrow (by simp) (fun k hk => by simp [Value.ownBlock] at hk))
      clear hown hgrow hnil
      go_wp2
      go_meet
      refine ⟨?_, HB.out⟩
      rw [HC1.out]
      have h := HO.out
      rw [← HP.out] at h
      simpa [cellRow] using h
    · have hv' : isVal s.kind = false := by
        simp only [isVal, Bool.and_eq_false_iff, decide_eq_false_iff_not]
        omega
      rw [hv'] at V
      by_cases h7 : s.kind = 7
      · have h7' : (s.kind == 7) = true := by simpa using h7
        have hcn : (s.count : Int) = max s.n 0 := by
          have := HSZ.out
          unfold SymD.size sizeOf8 at this
          rw [if_neg hv, if_pos h7] at this
          unfold SymD.count SymD.size sizeOf8
          rw [if_neg hv, if_pos h7]
          omega
        have hp : ∀ k, s.pcell k = ⟨s.name ++ { data := #[91] } ++ digits2 k ++ { data := #[93] }, s.elem, false, 0, if k = 0 then s.n else 0, 0⟩ := fun k => by
          have h9 : ¬ s.kind = 9 := by omega
          have h10 : ¬ s.kind = 10 := by omega
          simp [SymD.pcell, pathOf, kindOf, h7]
        have HP := Lib.hid hp
        clear hp hv hv' h7
        go_wp2_with fail
        refine (V.out _).mono ?_
        rintro e _ ⟨rfl, rfl⟩
        go_wp2_with fail
        go_loopw [3, 4] (fun l i wr => OfRel w1 36 s l i wr) (fun _ i _ => s.count - (intOf i).toNat)
        case atStart => exact ⟨0, rfl, Nat.zero_le _, World.ownsRow_nil _ _ _ _, Below.refl _ _⟩
        case round =>
          obtain ⟨j, rfl, hj, hown, hbr⟩ := hrel
          have HOW := Lib.hid hown
          have HBR := Lib.hid hbr
          have hzr := hbr.size
          have HLR := Lib.hid (HL.out.below hbr hlt1)
          clear hown hbr l0 l1 l2 l3 l4 l5 l6
          obtain ⟨l0, l1, l2, l3, l4, l5, l6⟩ := HLR.out
          by_cases hjl : j < s.count
          · have hjl' : (j : Int) < s.n := by omega
            have hgr : w.heap.size < wr.heap.size := by omega
            have qz : w.heap.size ≤ wr.heap.size := by omega
            have qn : ¬ wr.heap.size = w.heap.size := by omega
            have qm : ¬ w.heap.size = wr.heap.size := by omega
            have DG := Lib.hid (fun u => rdigits_any j (by omega) u)
            have hd2 := digits2_size j
            have HPJ := Lib.hid (HP.out j)
            generalize hdg : digits2 j = dg at *
            have hnm : s.name.size ≤ 1000000 := HOK.out.name
            have e1 : (9223372036854775807 < s.name.size + 1) = False := eq_false (by omega)
            have e2 : (9223372036854775807 < s.name.size + 1 + dg.size) = False := eq_false (by omega)
            have e3 : (9223372036854775807 < s.name.size + 1 + dg.size + 1) = False := eq_false (by omega)
            go_upto_region 16 with fail
            go_cut [5] (fun v8 wx => ∃ g : Nat, v8 = .pointer (some ⟨g, 0, none⟩) ∧ wr.heap.size ≤ g ∧ g < wx.heap.size ∧ CellAt wx g (s.name ++ { data := #[91] } ++ dg ++ { data := #[93] }) s.elem false 0 0 0 ∧ Below wr.heap.size wr wx)
            case first =>
              go_region_held3 (fun w' => w'.cell? ⟨w.heap.size, 0, none⟩ = some (.string s.name) ∧ w'.cell? ⟨w.heap.size, 1, none⟩ = some (.int .i64 s.kind) ∧ w'.cell? ⟨w.heap.size, 2, none⟩ = some (.int .i64 s.elem) ∧ w'.cell? ⟨w.heap.size, 3, none⟩ = some (.int .i64 s.n) ∧ w'.cell? ⟨w.heap.size, 4, none⟩ = some (.slice Fa s.fields.length Fc) ∧ w'.cell? ⟨w.heap.size, 5, none⟩ = some (.bool s.retain) ∧ w'.cell? ⟨w.heap.size, 6, none⟩ = some (.slice Ia s.init.length Ic)) (first | exact keepSym (B := wr.heap.size) (u1 := wr) (by repeat (first | (with_reducible exact HB2.out) | (with_reducible exact Below.refl _ _) | (with_reducible refine Below.setCell ?_ (by first | omega | (simp; done) | (simp; omega)) _) | (with_reducible refine Below.drew ?_) | (with_reducible refine below_dN _ ?_) | (with_reducible refine Below.alloc ?_ (by first | omega | (simp; done) | (simp; omega)) _))) hgr l0 l1 l2 l3 l4 l5 l6)
                (first | (go_at_call 27; refine (DG.out _).mono ?_; rintro e u2 ⟨rfl, hb2⟩; have z2 := hb2.size; (try simp at z2); (try have p2z0 : wr.heap.size < u2.heap.size := by omega); (try have p2y0 : wr.heap.size ≤ u2.heap.size := by omega); (try have p2v0 : ¬ u2.heap.size = wr.heap.size := by omega); (try have p2u0 : ¬ wr.heap.size = u2.heap.size := by omega); (try have p2c0 := dcell hb2 (b := wr.heap.size) (by first | omega | (simp; done) | (simp; omega))); (try have p2f0 := dfroz hb2 (b := wr.heap.size) (by first | omega | (simp; done) | (simp; omega))); have HB2 := Lib.hid (show Below wr.heap.size wr u2 from Below.trans (by repeat (first | (with_reducible exact HB2.out) | (with_reducible exact Below.refl _ _) | (with_reducible refine Below.setCell ?_ (by first | omega | (simp; done) | (simp; omega)) _) | (with_reducible refine Below.drew ?_) | (with_reducible refine below_dN _ ?_) | (with_reducible refine Below.alloc ?_ (by first | omega | (simp; done) | (simp; omega)) _))) (hb2.mono (by first | omega | (simp; done) | (simp; omega)))); clear hb2))
              all_goals (try go_wp2_with fail)
              all_goals go_meet
              all_goals refine ⟨_, rfl, (by first | omega | (simp; done) | (simp; omega)), (by first | omega | (simp; done) | (simp; omega)), ?_, ?_⟩
              all_goals first | (constructor <;> go_simp; done) | repeat (first | (with_reducible exact HB2.out) | (with_reducible exact Below.refl _ _) | (with_reducible refine Below.setCell ?_ (by first | omega | (simp; done) | (simp; omega)) _) | (with_reducible refine Below.drew ?_) | (with_reducible refine below_dN _ ?_) | (with_reducible refine Below.alloc ?_ (by first | omega | (simp; done) | (simp; omega)) _))
            case rest =>
            obtain ⟨g, rfl, hg1, hg2, hca, hbc⟩ := hcut
            generalize hwd2 : wc = wb at *
            clear hwd2
            have HOC := Lib.hid (row_keep HOW.out hbc)
            have HBC := Lib.hid (HBR.out.trans (hbc.mono hzr))
            have hzc := hbc.size
            have hzb : w1.heap.size ≤ wb.heap.size := by omega
            have hgb : w1.heap.size ≤ g := by omega
            have HGO := Lib.hid (show Value.ownBlock _ ≠ some g from fun e => by have := (HOW.out.lt _ e).2; omega)
            have HLC := Lib.hid (HLR.out.below hbc hgr)
            clear hbc l0 l1 l2 l3 l4 l5 l6
            obtain ⟨l0, l1, l2, l3, l4, l5, l6⟩ := HLC.out
            obtain ⟨a0, a1, a2, a3, a4, a5, f0, f1, f2, f3, f4, f5⟩ := hca
            have hgn : ¬ g = w.heap.size := by omega
            have hgm : ¬ w.heap.size = g := by omega
            generalize s.name ++ { data := #[91] } ++ dg ++ { data := #[93] } = pp at *
            by_cases hj0 : j = 0
            · subst hj0
              have HCELL := Lib.hid (show s.pcell 0 = ⟨pp, s.elem, false, 0, s.n, 0⟩ by rw [HPJ.out]; simp)
              have HOF := Lib.hid (own_setFar8 HOC.out (a := ⟨g, 4, none⟩) HGO.out (.int .i64 s.n))
              go_wp2_with (at_builtin; refine wpList_append_own _ rfl _ _ 26 rfl w1.heap.size 36 i0 _ 6 56 t27 hi0 hz0 hz1 hz2 rfl (by decide) _ 0 (cellRow ((List.range 0).map s.pcell)) rfl (HOF.out.alloc _) ⟨_, 0, none⟩ 1 1 (cellCells ⟨pp, s.elem, false, 0, s.n, 0⟩) rfl ?qb1 ?qb2 ?qb3 ?qb4 ?qb5 ?qb6 ?_)
              case qb1 => rfl
              case qb2 =>
                intro i u hj
                try rw [Addr.add_lit]
                have hj' : i < 6 := by have := (List.getElem?_eq_some_iff.1 hj).1; simpa [cellCells] using this
                rcases (show i = 0 ∨ i = 1 ∨ i = 2 ∨ i = 3 ∨ i = 4 ∨ i = 5 by omega) with rfl | rfl | rfl | rfl | rfl | rfl <;> (simp [cellCells] at hj; subst hj; go_simp)
              case qb3 => exact cellCells_one _
              case qb4 => unfold maxLen; omega
              case qb6 => first | omega | (simp; done) | (simp; omega)
              intro v' w9 hown hgrow hnil
              have HO1 := Lib.hid hown
              have HB1 := Lib.hid (show Below w1.heap.size w1 w9 from ((HBC.out.setCell hgb _).alloc (by first | omega | (simp; done) | (simp; omega)) _).grown hgrow (by first | omega | (simp; done) | (simp; omega)) (fun k hk => (HOF.out.lt k hk).1))
              clear hown hgrow hnil
              go_wp2
              go_roundw
              case rel =>
                refine ⟨0 + 1, rfl, by omega, ?_, HB1.out⟩
                have h := HO1.out
                rw [← HCELL.out] at h
                rw [List.range_succ, List.map_append, cellRow, List.flatMap_append]
                simpa [cellRow] using h
              case measure => simp [intOf]; omega
            · have hj0' : ((j : Int) == 0) = false := by simp; omega
              have HCELL := Lib.hid (show s.pcell j = ⟨pp, s.elem, false, 0, 0, 0⟩ by rw [HPJ.out]; simp [hj0])
              go_wp2_with (at_builtin; refine wpList_append_own _ rfl _ _ 26 rfl w1.heap.size 36 i0 _ 6 56 t27 hi0 hz0 hz1 hz2 rfl (by decide) _ j (cellRow ((List.range j).map s.pcell)) rfl (HOC.out.alloc _) ⟨_, 0, none⟩ 1 1 (cellCells ⟨pp, s.elem, false, 0, 0, 0⟩) rfl ?qc1 ?qc2 ?qc3 ?qc4 ?qc5 ?qc6 ?_)
              case qc1 => rfl
              case qc2 =>
                intro i u hj
                try rw [Addr.add_lit]
                have hj' : i < 6 := by have := (List.getElem?_eq_some_iff.1 hj).1; simpa [cellCells] using this
                rcases (show i = 0 ∨ i = 1 ∨ i = 2 ∨ i = 3 ∨ i = 4 ∨ i = 5 by omega) with rfl | rfl | rfl | rfl | rfl | rfl <;> (simp [cellCells] at hj; subst hj; go_simp)
              case qc3 => exact cellCells_one _
              case qc4 => unfold maxLen; omega
              case qc5 => omega
              case qc6 => first | omega | (simp; done) | (simp; omega)
              intro v' w9 hown hgrow hnil
              have HO1 := Lib.hid hown
              have HB1 := Lib.hid (show Below w1.heap.size w1 w9 from (HBC.out.alloc (by first | omega | (simp; done) | (simp; omega)) _).grown hgrow (by first | omega | (simp; done) | (simp; omega)) (fun k hk => (HOC.out.lt k hk).1))
              clear hown hgrow hnil
              go_wp2
              go_roundw
              case rel =>
                refine ⟨j + 1, rfl, by omega, ?_, HB1.out⟩
                have h := HO1.out
                rw [← HCELL.out] at h
                rw [List.range_succ, List.map_append, cellRow, List.flatMap_append]
                simpa [cellRow] using h
              case measure => simp [intOf]; omega
          · have hjs : j = s.count := by omega
            have hjn : ¬ (j : Int) < s.n := by omega
            subst hjs
            have HBR' := Lib.hid HBR.out
            go_wp2
            go_meet
            exact ⟨HOW.out, HBR.out⟩
      · have h7' : (s.kind == 7) = false := by simpa using h7
        have FD := Lib.hid (fun u (h : Row u u.heap.size 2 Fa s.fields.length (fieldRow s.fields)) => rfieldsT_any s.kind s.elem s.n Fa s.fields.length Fc s.fields u h HOK.out.fields rfl hfc hfm)
        have hcn : s.count = (fieldsOf s.kind s.fields).length := by
          have := HSZ.out
          unfold SymD.size sizeOf8 at this
          rw [if_neg hv, if_neg h7] at this
          unfold SymD.count SymD.size sizeOf8
          rw [if_neg hv, if_neg h7]
          omega
        have hp : ∀ k f, (fieldsOf s.kind s.fields)[k]? = some f → s.pcell k = ⟨s.name ++ { data := #[46] } ++ f.name, f.kind, false, 0, 0, if k = 0 ∧ ¬ s.kind = 8 then s.kind else 0⟩ := fun k f hk => by
          have hb : (s.kind = 9 ∨ s.kind = 10) ↔ ¬ s.kind = 8 := by
            constructor
            · omega
            · intro h8
              have : fieldsOf s.kind s.fields ≠ [] := fun e => by rw [e] at hk; simp at hk
              unfold fieldsOf at this
              rw [if_neg h8] at this
              by_cases h9 : s.kind = 9
              · exact .inl h9
              · rw [if_neg h9] at this
                by_cases h10 : s.kind = 10
                · exact .inr h10
                · rw [if_neg h10] at this
                  exact absurd rfl this
          simp only [SymD.pcell, pathOf, kindOf, if_neg h7, hk, hb]
          simp [h7]
        have HP := Lib.hid hp
        have HSZF := Lib.hid (fieldsOf_size (k := s.kind) HOK.out.fnames)
        have HN7 := Lib.hid h7
        clear hp hv hv' h7
        generalize fieldsOf s.kind s.fields = fs at *
        go_wp2_with fail
        refine (V.out _).mono ?_
        rintro e _ ⟨rfl, rfl⟩
        go_wp2_with fail
        refine (FD.out _ HF1.out).mono ?_
        rintro e w2 ⟨⟨R, c', rfl, hcc, hcm', hrow⟩, hb⟩
        have hz12 := hb.size
        have HB12 := Lib.hid hb
        have HR2 := Lib.hid hrow
        have HL2 := Lib.hid (HL.out.below hb hlt1)
        have hlt2 : w.heap.size < w2.heap.size := by omega
        clear hb hrow l0 l1 l2 l3 l4 l5 l6
        go_wp2_with fail
        go_loopw [3, 7] (fun l i wr => OfRel w2 36 s l i wr) (fun _ i _ => s.count - (intOf i).toNat)
        case atStart => exact ⟨0, rfl, Nat.zero_le _, World.ownsRow_nil _ _ _ _, Below.refl _ _⟩
        case round =>
          obtain ⟨j, rfl, hj, hown, hbr⟩ := hrel
          have HOW := Lib.hid hown
          have HBR := Lib.hid hbr
          have hzr := hbr.size
          have HLR := Lib.hid (HL2.out.below hbr hlt2)
          have HRR := Lib.hid (HR2.out.below hbr)
          clear hown hbr
          obtain ⟨l0, l1, l2, l3, l4, l5, l6⟩ := HLR.out
          by_cases hjl : j < s.count
          · have hjl' : (j : Int) < fs.length := by omega
            obtain ⟨f, hf⟩ : ∃ f, fs[j]? = some f := ⟨_, List.getElem?_eq_getElem (by omega)⟩
            have HF := Lib.hid hf
            have HPJ := Lib.hid (HP.out j f hf)
            have hfs : f.name.size ≤ 1000000 := HSZF.out f (List.mem_of_getElem? hf)
            have hnm : s.name.size ≤ 1000000 := HOK.out.name
            have e1 : (9223372036854775807 < s.name.size + 1) = False := eq_false (by omega)
            have e2 : (9223372036854775807 < s.name.size + 1 + f.name.size) = False := eq_false (by omega)
            obtain ⟨b, off, hRb, hbl, hcell⟩ := HRR.out.2 (by omega)
            have hx0 : wr.cell? ⟨b, off + j * 2, none⟩ = some (.string f.name) := hcell (j * 2) (.string f.name) ((flat_get fieldCells 2 fieldCells_length fs j 0 f hf (by omega)).trans rfl)
            have hx1 : wr.cell? ⟨b, off + j * 2 + 1, none⟩ = some (.int .i64 f.kind) := by
              have h := hcell (j * 2 + 1) (.int .i64 f.kind) ((flat_get fieldCells 2 fieldCells_length fs j 1 f hf (by omega)).trans rfl)
              rw [← Nat.add_assoc] at h
              exact h
            subst hRb
            have hgr : w.heap.size < wr.heap.size := by omega
            have qz : w.heap.size ≤ wr.heap.size := by omega
            have qn : ¬ wr.heap.size = w.heap.size := by omega
            have qm : ¬ w.heap.size = wr.heap.size := by omega
            have hbr : b < wr.heap.size := by omega
            have qb : ¬ wr.heap.size = b := by omega
            have qc : ¬ b = wr.heap.size := by omega
            clear hcell hf
            go_upto_region 6 with fail
            go_cut [8] (fun v8 wx => ∃ g : Nat, v8 = .pointer (some ⟨g, 0, none⟩) ∧ wr.heap.size ≤ g ∧ g < wx.heap.size ∧ CellAt wx g (s.name ++ { data := #[46] } ++ f.name) f.kind false 0 0 0 ∧ Below wr.heap.size wr wx)
            case first =>
              go_region_held3 (fun w' => w'.cell? ⟨w.heap.size, 0, none⟩ = some (.string s.name) ∧ w'.cell? ⟨b, off + j * 2, none⟩ = some (.string f.name) ∧ w'.cell? ⟨b, off + j * 2 + 1, none⟩ = some (.int .i64 f.kind)) (first | exact keep3 (B := wr.heap.size) (u1 := wr) (by repeat (first | (with_reducible exact HB2.out) | (with_reducible exact Below.refl _ _) | (with_reducible refine Below.setCell ?_ (by first | omega | (simp; done) | (simp; omega)) _) | (with_reducible refine Below.drew ?_) | (with_reducible refine below_dN _ ?_) | (with_reducible refine Below.alloc ?_ (by first | omega | (simp; done) | (simp; omega)) _))) hgr hbr l0 hx0 hx1) (fail)
              all_goals (try go_wp2_with fail)
              all_goals go_meet
              all_goals refine ⟨_, rfl, (by first | omega | (simp; done) | (simp; omega)), (by first | omega | (simp; done) | (simp; omega)), ?_, ?_⟩
              all_goals first | (constructor <;> go_simp; done) | repeat (first | (with_reducible exact Below.refl _ _) | (with_reducible refine Below.setCell ?_ (by first | omega | (simp; done) | (simp; omega)) _) | (with_reducible refine Below.drew ?_) | (with_reducible refine below_dN _ ?_) | (with_reducible refine Below.alloc ?_ (by first | omega | (simp; done) | (simp; omega)) _))
            case rest =>
            obtain ⟨g, rfl, hg1, hg2, hca, hbc⟩ := hcut
            generalize hwd2 : wc = wb at *
            clear hwd2
            have HOC := Lib.hid (row_keep HOW.out hbc)
            have HBC := Lib.hid (HBR.out.trans (hbc.mono hzr))
            have hzc := hbc.size
            have hzb : w2.heap.size ≤ wb.heap.size := by omega
            have hgb : w2.heap.size ≤ g := by omega
            have HGO := Lib.hid (show Value.ownBlock _ ≠ some g from fun e => by have := (HOW.out.lt _ e).2; omega)
            have HLC := Lib.hid (HLR.out.below hbc hgr)
            clear hbc l0 l1 l2 l3 l4 l5 l6 hx0 hx1
            obtain ⟨l0, l1, l2, l3, l4, l5, l6⟩ := HLC.out
            obtain ⟨a0, a1, a2, a3, a4, a5, f0, f1, f2, f3, f4, f5⟩ := hca
            have hgn : ¬ g = w.heap.size := by omega
            have hgm : ¬ w.heap.size = g := by omega
            generalize s.name ++ { data := #[46] } ++ f.name = pp at *
            by_cases hj0 : j = 0
            · subst hj0
              by_cases h8 : s.kind = 8
              · have h8' : (s.kind == 8) = true := by simpa using h8
                have HCELL := Lib.hid (show s.pcell 0 = ⟨pp, f.kind, false, 0, 0, 0⟩ by rw [HPJ.out]; simp [h8])
                clear h8
                go_wp2_with (at_builtin; refine wpList_append_own _ rfl _ _ 26 rfl w2.heap.size 36 i0 _ 6 56 t27 hi0 hz0 hz1 hz2 rfl (by decide) _ 0 (cellRow ((List.range 0).map s.pcell)) rfl (HOC.out.alloc _) ⟨_, 0, none⟩ 1 1 (cellCells ⟨pp, f.kind, false, 0, 0, 0⟩) rfl ?qd1 ?qd2 ?qd3 ?qd4 ?qd5 ?qd6 ?_)
                case qd1 => rfl
                case qd2 =>
                  intro i u hj
                  try rw [Addr.add_lit]
                  have hj' : i < 6 := by have := (List.getElem?_eq_some_iff.1 hj).1; simpa [cellCells] using this
                  rcases (show i = 0 ∨ i = 1 ∨ i = 2 ∨ i = 3 ∨ i = 4 ∨ i = 5 by omega) with rfl | rfl | rfl | rfl | rfl | rfl <;> (simp [cellCells] at hj; subst hj; go_simp)
                case qd3 => exact cellCells_one _
                case qd4 => unfold maxLen; omega
                case qd6 => first | omega | (simp; done) | (simp; omega)
                intro v' w9 hown hgrow hnil
                have HO1 := Lib.hid hown
                have HB1 := Lib.hid (show Below w2.heap.size w2 w9 from (HBC.out.alloc (by first | omega | (simp; done) | (simp; omega)) _).grown hgrow (by first | omega | (simp; done) | (simp; omega)) (fun k hk => (HOC.out.lt k hk).1))
                clear hown hgrow hnil
                go_wp2
                go_roundw
                case rel =>
                  refine ⟨0 + 1, rfl, by omega, ?_, HB1.out⟩
                  have h := HO1.out
                  rw [← HCELL.out] at h
                  rw [List.range_succ, List.map_append, cellRow, List.flatMap_append]
                  simpa [cellRow] using h
                case measure => simp [intOf]; omega
              · have h8' : (s.kind == 8) = false := by simpa using h8
                have HCELL := Lib.hid (show s.pcell 0 = ⟨pp, f.kind, false, 0, 0, s.kind⟩ by rw [HPJ.out]; simp [h8])
                have HOF := Lib.hid (own_setFar8 HOC.out (a := ⟨g, 5, none⟩) HGO.out (.int .i64 s.kind))
                clear h8
                go_wp2_with (at_builtin; refine wpList_append_own _ rfl _ _ 26 rfl w2.heap.size 36 i0 _ 6 56 t27 hi0 hz0 hz1 hz2 rfl (by decide) _ 0 (cellRow ((List.range 0).map s.pcell)) rfl (HOF.out.alloc _) ⟨_, 0, none⟩ 1 1 (cellCells ⟨pp, f.kind, false, 0, 0, s.kind⟩) rfl ?qe1 ?qe2 ?qe3 ?qe4 ?qe5 ?qe6 ?_)
                case qe1 => rfl
                case qe2 =>
                  intro i u hj
                  try rw [Addr.add_lit]
                  have hj' : i < 6 := by have := (List.getElem?_eq_some_iff.1 hj).1; simpa [cellCells] using this
                  rcases (show i = 0 ∨ i = 1 ∨ i = 2 ∨ i = 3 ∨ i = 4 ∨ i = 5 by omega) with rfl | rfl | rfl | rfl | rfl | rfl <;> (simp [cellCells] at hj; subst hj; go_simp)
                case qe3 => exact cellCells_one _
                case qe4 => unfold maxLen; omega
                case qe6 => first | omega | (simp; done) | (simp; omega)
                intro v' w9 hown hgrow hnil
                have HO1 := Lib.hid hown
                have HB1 := Lib.hid (show Below w2.heap.size w2 w9 from ((HBC.out.setCell hgb _).alloc (by first | omega | (simp; done) | (simp; omega)) _).grown hgrow (by first | omega | (simp; done) | (simp; omega)) (fun k hk => (HOF.out.lt k hk).1))
                clear hown hgrow hnil
                go_wp2
                go_roundw
                case rel =>
                  refine ⟨0 + 1, rfl, by omega, ?_, HB1.out⟩
                  have h := HO1.out
                  rw [← HCELL.out] at h
                  rw [List.range_succ, List.map_append, cellRow, List.flatMap_append]
                  simpa [cellRow] using h
                case measure => simp [intOf]; omega
            · have hj0' : ((j : Int) == 0) = false := by simp; omega
              have HCELL := Lib.hid (show s.pcell j = ⟨pp, f.kind, false, 0, 0, 0⟩ by rw [HPJ.out]; simp [hj0])
              go_wp2_with (at_builtin; refine wpList_append_own _ rfl _ _ 26 rfl w2.heap.size 36 i0 _ 6 56 t27 hi0 hz0 hz1 hz2 rfl (by decide) _ j (cellRow ((List.range j).map s.pcell)) rfl (HOC.out.alloc _) ⟨_, 0, none⟩ 1 1 (cellCells ⟨pp, f.kind, false, 0, 0, 0⟩) rfl ?qf1 ?qf2 ?qf3 ?qf4 ?qf5 ?qf6 ?_)
              case qf1 => rfl
              case qf2 =>
                intro i u hj
                try rw [Addr.add_lit]
                have hj' : i < 6 := by have := (List.getElem?_eq_some_iff.1 hj).1; simpa [cellCells] using this
                rcases (show i = 0 ∨ i = 1 ∨ i = 2 ∨ i = 3 ∨ i = 4 ∨ i = 5 by omega) with rfl | rfl | rfl | rfl | rfl | rfl <;> (simp [cellCells] at hj; subst hj; go_simp)
              case qf3 => exact cellCells_one _
              case qf4 => unfold maxLen; omega
              case qf5 => omega
              case qf6 => first | omega | (simp; done) | (simp; omega)
              intro v' w9 hown hgrow hnil
              have HO1 := Lib.hid hown
              have HB1 := Lib.hid (show Below w2.heap.size w2 w9 from (HBC.out.alloc (by first | omega | (simp; done) | (simp; omega)) _).grown hgrow (by first | omega | (simp; done) | (simp; omega)) (fun k hk => (HOC.out.lt k hk).1))
              clear hown hgrow hnil
              go_wp2
              go_roundw
              case rel =>
                refine ⟨j + 1, rfl, by omega, ?_, HB1.out⟩
                have h := HO1.out
                rw [← HCELL.out] at h
                rw [List.range_succ, List.map_append, cellRow, List.flatMap_append]
                simpa [cellRow] using h
              case measure => simp [intOf]; omega
          · have hjs : j = s.count := by omega
            have hjn : ¬ (j : Int) < fs.length := by omega
            subst hjs
            go_wp2
            go_meet
            exact ⟨own_mono8 HOW.out hz12, HB12.out.trans (HBR.out.mono hz12)⟩
  case rest =>
  obtain ⟨hown, hb⟩ := hcut
  obtain ⟨A, c, rfl, hc1, hc2⟩ := own_slice hown
  generalize hwc : wc = w2 at *
  have HOW2 := Lib.hid hown
  have HB2' := Lib.hid hb
  have hz2' := hb.size
  clear hown hb hwc
  go_wp2_with fail
  go_loopw [9] (fun i wr => FillRel w1 36 s (.slice A s.count c) i wr) (fun i _ => s.count - (intOf i).toNat)
  case atStart => exact ⟨0, rfl, Nat.zero_le _, by rw [s.upto_zero]; exact HOW2.out, HB2'.out⟩
  case round =>
    obtain ⟨j, rfl, hj, hown, hbr⟩ := hrel
    have hzr := hbr.size
    have HLR := Lib.hid (HL.out.below hbr hlt1)
    have HIR := Lib.hid (HI1.out.below hbr)
    have HBR := Lib.hid hbr
    have HOW := Lib.hid hown
    by_cases hjl : j < s.count
    · have hjl' : (j : Int) < s.count := by omega
      obtain ⟨g, cap, hv, hgl, hglt⟩ := hown.form (by omega)
      have hA : A = some ⟨g, 0, none⟩ := by injection hv
      subst hA
      have hxl : (cellRow ((List.range s.count).map (s.upto j)))[j * 6 + 2]? = some (.bool false) := (flat_get cellCells 6 cellCells_length _ j 2 (s.pcell j) (by rw [List.getElem?_map, List.getElem?_range hjl]; simp [SymD.upto]) (by omega)).trans rfl
      have hxl3 : (cellRow ((List.range s.count).map (s.upto j)))[j * 6 + 3]? = some (.int .i64 0) := (flat_get cellCells 6 cellCells_length _ j 3 (s.pcell j) (by rw [List.getElem?_map, List.getElem?_range hjl]; simp [SymD.upto]) (by omega)).trans rfl
      have hg2 : wr.cell? ⟨g, j * 6 + 2, none⟩ = some (.bool false) := (hown.cellAt (j * 6 + 2) (by omega)).trans hxl
      have hg3 : wr.cell? ⟨g, j * 6 + 3, none⟩ = some (.int .i64 0) := (hown.cellAt (j * 6 + 3) (by omega)).trans hxl3
      have fz2 := hown.frozenAt (j * 6 + 2)
      have fz3 := hown.frozenAt (j * 6 + 3)
      have hst := hown.stored (j * 6 + 2) (.bool s.retain)
      rw [s.set_half s.count j hjl] at hst
      have hst2 := hst.1.stored (j * 6 + 3) (.int .i64 (s.init.getD j 0))
      rw [s.set_full s.count j hjl] at hst2
      have HST := Lib.hid hst.1
      have HST2 := Lib.hid hst2.1
      have hgn : ¬ g = w.heap.size := by omega
      have hgm : ¬ w.heap.size = g := by omega
      clear hown hbr hv hxl hxl3 hst hst2
      obtain ⟨l0, l1, l2, l3, l4, l5, l6⟩ := HLR.out
      by_cases hin : j < s.init.length
      · have hin' : (j : Int) < s.init.length := by omega
        obtain ⟨ib, io, rfl, hil, hic'⟩ := HIR.out.2 (by omega)
        have hx : wr.cell? ⟨ib, io + j, none⟩ = some (.int .i64 (s.init.getD j 0)) := hic' j _ (by simp [List.getD_eq_getElem?_getD, List.getElem?_eq_getElem hin])
        have qg : ¬ g = ib := by omega
        have qh : ¬ ib = g := by omega
        clear hic'
        generalize s.init.getD j 0 = q at *
        go_wp2
        go_roundw
        case rel => exact ⟨j + 1, rfl, by omega, HST2.out, (HBR.out.setCell hgl _).setCell hgl _⟩
        case measure => simp [intOf]; omega
      · have HHC := Lib.hid (s.half_cell j hin)
        have hin' : ¬ (j : Int) < s.init.length := by omega
        go_wp2
        go_roundw
        case rel =>
          refine ⟨j + 1, rfl, by omega, ?_, HBR.out.setCell hgl _⟩
          have h := HST.out
          rw [HHC.out, s.upto_set s.count j hjl] at h
          exact h
        case measure => simp [intOf]; omega
    · have hjs : j = s.count := by omega
      subst hjs
      clear hown hbr
      go_wp2
      go_ret
      refine ⟨⟨A, c, rfl, hc1, hc2, ?_⟩, HB0.out.trans (HBR.out.mono (Nat.le_of_lt hlt1))⟩
      have h := HOW.out
      rw [s.upto_all] at h
      exact Row.of_own h

/-- The document's cells of variables. -/
def RCellsRel (w : World) (l : List SymD) (out i : Value) (wr : World) : Prop :=
  ∃ k : Nat, i = .int .i64 k ∧ k ≤ l.length ∧ wr.ownsRow w.heap.size 36 6 out (cellsOf (l.take k)).length (cellRow (cellsOf (l.take k))) ∧ Below w.heap.size w wr

set_option maxHeartbeats 8000000 in
set_option maxRecDepth 100000 in
theorem rcells_any (A : Option Addr) (n c : Nat) (l : List SymD) (w : World) (hs : Syms w w.heap.size A n l) (hn : n ≤ 10000) (hc : n ≤ c) (hcm : c ≤ 9223372036854775807) (hz : ∀ s ∈ l, s.size ≤ 64) :
    Calls Tryd.prog 14 #[.slice A n c] w fun e w' => ∃ v, e = .returned v ∧ w'.ownsRow w.heap.size 36 6 v (cellsOf l).length (cellRow (cellsOf l)) ∧ Below w.heap.size w w' := by
  obtain ⟨i0, hi, hz0, hz1, hz2⟩ := info_parts cellInfo8
  have t27 := cellTy8
  have hnl := hs.len
  subst hnl
  have HS := Lib.hid hs
  have HZ := Lib.hid hz
  clear hs hz
  have hl' : (l.length : Int) ≤ 10000 := by omega
  go_enter Tryd.func14, Tryd.ntmps14
  go_wp2_with fail
  go_loopw [3, 4] (fun out i wr => RCellsRel w l out i wr) (fun _ i _ => l.length - (intOf i).toNat)
  case atStart => exact ⟨0, rfl, Nat.zero_le _, World.ownsRow_nil _ _ _ _, Below.refl _ _⟩
  case round =>
    obtain ⟨k, rfl, hk, hown, hb⟩ := hrel
    have HOW := Lib.hid hown
    have HB := Lib.hid hb
    have hzw := hb.size
    by_cases hlt : k < l.length
    · have hlt' : (k : Int) < l.length := by omega
      obtain ⟨s, hsk⟩ : ∃ s, l[k]? = some s := ⟨_, List.getElem?_eq_getElem hlt⟩
      have hok := HS.out.ok s (List.mem_of_getElem? hsk)
      have hsz := HZ.out s (List.mem_of_getElem? hsk)
      obtain ⟨b, off, hA, hbl, hat⟩ := HS.out.at_ (by omega)
      obtain ⟨Fa, Fc, Ia, Ic, k0, k1, k2, k3, k4, k5, k6, hF, hFc, hFm, hI, hIc, hIm⟩ := (hat k s hsk).below hb hbl
      subst hA
      have OF := Lib.hid (rof_any s Fa Fc Ia Ic wr (hF.more hzw) hFc hFm (hI.more hzw) hIc hIm hok hsz)
      have HSK := Lib.hid hsk
      have h64 := s.count_le
      have hll := cellsOf_length_le (l.take k)
      have htk : (l.take k).length ≤ 10000 := by rw [List.length_take]; omega
      have HLL := Lib.hid (show (cellsOf (l.take k)).length ≤ 640000 by omega)
      clear hown hb hat hF hI hsk hok hsz hll htk
      go_wp2_with fail
      refine OF.out.mono ?_
      rintro e w2 ⟨⟨R, c', rfl, hcc, hcm', hrow⟩, hb2⟩
      have hz2w := hb2.size
      have HO2 := Lib.hid (row_keep HOW.out hb2)
      have HR2 := Lib.hid hrow
      have HB2 := Lib.hid (HB.out.trans (hb2.mono hzw))
      have hzz : w.heap.size ≤ w2.heap.size := by omega
      clear hrow hb2
      go_wp2_with (at_builtin; refine wpList_append_row _ rfl _ _ 26 rfl w.heap.size 36 i0 _ 6 56 t27 hi hz0 hz1 hz2 rfl (by decide) _ _ _ rfl HO2.out w2.heap.size R s.count c' (cellRow s.cells) rfl HR2.out (flat_one _ cellCells_one _) ?qa1 ?qa2 ?qa3 ?_)
      case qa1 => have := HLL.out; unfold maxLen; omega
      case qa2 => have := HLL.out; omega
      case qa3 => first | omega | (simp; done) | (simp; omega)
      intro v' w9 hown hgrow hat
      have HO9 := Lib.hid hown
      have HB9 := Lib.hid (show Below w.heap.size w w9 from HB2.out.grown hgrow (by omega) (fun k hk => (HO2.out.lt k hk).1))
      clear hown hgrow hat
      go_wp2
      go_roundw
      case rel =>
        have e1 : cellsOf (l.take (k + 1)) = cellsOf (l.take k) ++ s.cells := by
          rw [List.take_add_one, HSK.out]
          simp [cellsOf]
        have e2 : (cellsOf (l.take (k + 1))).length = (cellsOf (l.take k)).length + s.count := by rw [e1, List.length_append, s.cells_length]
        have e3 : cellRow (cellsOf (l.take (k + 1))) = cellRow (cellsOf (l.take k)) ++ cellRow s.cells := by rw [e1]; simp [cellRow]
        refine ⟨k + 1, rfl, by omega, ?_, HB9.out⟩
        rw [e2, e3]
        exact HO9.out
      case measure => simp [intOf]; omega
    · have hkl : k = l.length := by omega
      subst hkl
      clear hown hb
      go_wp2
      go_ret
      have h := HOW.out
      rw [List.take_length] at h
      exact ⟨_, rfl, h, HB.out⟩
end Go.Proofs.YtgeeicgdgncmpaaDoor
