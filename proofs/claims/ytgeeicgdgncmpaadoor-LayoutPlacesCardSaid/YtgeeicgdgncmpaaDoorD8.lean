/- Cells: each round makes one variable's cells. -/
import Derived.Test.YtgeeicgdgncmpaaDoorC8
import Derived.Deep.DeepCutAuto
import Derived.Deep.CutBlock
import Derived.Deep.RegionHeld3
import Derived.WalkLawsBesides
import Derived.Outline
namespace Go.Proofs.YtgeeicgdgncmpaaDoor
open Go.RowKit
set_option linter.unusedVariables false
set_option linter.unusedSimpArgs false
attribute [local go_sem ↓] Go.wp_at_zero Go.wp_at_succ

/-- Six cells of a block, none frozen. -/
structure CellAt (w : World) (b : Nat) (p : ByteArray) (k : Int) (r : Bool) (i l bl : Int) : Prop where
  c0 : w.cell? ⟨b, 0, none⟩ = some (.string p)
  c1 : w.cell? ⟨b, 1, none⟩ = some (.int .i64 k)
  c2 : w.cell? ⟨b, 2, none⟩ = some (.bool r)
  c3 : w.cell? ⟨b, 3, none⟩ = some (.int .i64 i)
  c4 : w.cell? ⟨b, 4, none⟩ = some (.int .i64 l)
  c5 : w.cell? ⟨b, 5, none⟩ = some (.int .i64 bl)
  f0 : w.frozen? ⟨b, 0, none⟩ = false
  f1 : w.frozen? ⟨b, 1, none⟩ = false
  f2 : w.frozen? ⟨b, 2, none⟩ = false
  f3 : w.frozen? ⟨b, 3, none⟩ = false
  f4 : w.frozen? ⟨b, 4, none⟩ = false
  f5 : w.frozen? ⟨b, 5, none⟩ = false

/-- The seven cells of the variable that a round has taken. -/
structure SymLoc (w : World) (b : Nat) (s : SymD) (Fa : Option Addr) (Fc : Nat) (Ia : Option Addr) (Ic : Nat) : Prop where
  c0 : w.cell? ⟨b, 0, none⟩ = some (.string s.name)
  c1 : w.cell? ⟨b, 1, none⟩ = some (.int .i64 s.kind)
  c2 : w.cell? ⟨b, 2, none⟩ = some (.int .i64 s.elem)
  c3 : w.cell? ⟨b, 3, none⟩ = some (.int .i64 s.n)
  c4 : w.cell? ⟨b, 4, none⟩ = some (.slice Fa s.fields.length Fc)
  c5 : w.cell? ⟨b, 5, none⟩ = some (.bool s.retain)
  c6 : w.cell? ⟨b, 6, none⟩ = some (.slice Ia s.init.length Ic)
theorem SymLoc.below {w w' : World} {B b : Nat} {s : SymD} {Fa Ia : Option Addr} {Fc Ic : Nat} (h : SymLoc w b s Fa Fc Ia Ic) (hb : Below B w w') (hlt : b < B) : SymLoc w' b s Fa Fc Ia Ic :=
  ⟨(dcell hb hlt _).trans h.c0, (dcell hb hlt _).trans h.c1, (dcell hb hlt _).trans h.c2, (dcell hb hlt _).trans h.c3, (dcell hb hlt _).trans h.c4, (dcell hb hlt _).trans h.c5, (dcell hb hlt _).trans h.c6⟩

theorem dfroz {W w1 : World} {B : Nat} (hb : Below B W w1) {b : Nat} (h : b < B) (o : Nat) : w1.frozen? ⟨b, o, none⟩ = W.frozen? ⟨b, o, none⟩ := hb.frozen (p := ⟨b, o, none⟩) h

def OuterRel (w : World) (l : List SymD) (out i : Value) (wr : World) : Prop :=
  ∃ (k : Nat) (R : Option Addr) (c : Nat), i = .int .i64 k ∧ k ≤ l.length ∧ out = .slice R (cellsOf (l.take k)).length c ∧ (cellsOf (l.take k)).length ≤ c ∧ c ≤ 9223372036854775807 ∧
    Row wr wr.heap.size 6 R (cellsOf (l.take k)).length (cellRow (cellsOf (l.take k))) ∧ Below w.heap.size w wr

def InnerRel (ws : World) (T : TypeId) (s : SymD) (row i : Value) (wr : World) : Prop :=
  ∃ (k : Nat), i = .int .i64 k ∧ k ≤ s.count ∧ wr.ownsRow ws.heap.size T 6 row k (cellRow ((List.range k).map s.cell)) ∧ Below ws.heap.size ws wr

theorem keepSym {u1 W' : World} {B g : Nat} {v0 v1 v2 v3 v4 v5 v6 : Value} (hb : Below B u1 W') (h : g < B) (k0 : u1.cell? ⟨g, 0, none⟩ = some v0) (k1 : u1.cell? ⟨g, 1, none⟩ = some v1) (k2 : u1.cell? ⟨g, 2, none⟩ = some v2) (k3 : u1.cell? ⟨g, 3, none⟩ = some v3) (k4 : u1.cell? ⟨g, 4, none⟩ = some v4) (k5 : u1.cell? ⟨g, 5, none⟩ = some v5) (k6 : u1.cell? ⟨g, 6, none⟩ = some v6) :
    W'.cell? ⟨g, 0, none⟩ = some v0 ∧ W'.cell? ⟨g, 1, none⟩ = some v1 ∧ W'.cell? ⟨g, 2, none⟩ = some v2 ∧ W'.cell? ⟨g, 3, none⟩ = some v3 ∧ W'.cell? ⟨g, 4, none⟩ = some v4 ∧ W'.cell? ⟨g, 5, none⟩ = some v5 ∧ W'.cell? ⟨g, 6, none⟩ = some v6 :=
  ⟨(dcell hb h 0).trans k0, (dcell hb h 1).trans k1, (dcell hb h 2).trans k2, (dcell hb h 3).trans k3, (dcell hb h 4).trans k4, (dcell hb h 5).trans k5, (dcell hb h 6).trans k6⟩

set_option maxHeartbeats 8000000 in
set_option maxRecDepth 100000 in
theorem cells_any (A : Option Addr) (n c : Nat) (l : List SymD) (w : World) (hs : Syms w w.heap.size A n l) (hn : n ≤ 10000) (hc : n ≤ c) (hcm : c ≤ 9223372036854775807) :
    Calls Tryd.prog 8 #[.slice A n c] w (RowBack w.heap.size 6 (cellsOf l).length (cellRow (cellsOf l)) w) := by
  obtain ⟨i0, hi, hz0, hz1, hz2⟩ := info_parts cellInfo8
  have t27 := cellTy8
  have hnl := hs.len
  subst hnl
  have HS := Lib.hid hs
  clear hs
  have hl' : (l.length : Int) ≤ 10000 := by omega
  go_enter Tryd.func8, Tryd.ntmps8
  go_wp2_with fail
  go_loopw [3, 11] (fun out i wr => OuterRel w l out i wr) (fun _ i _ => l.length - (intOf i).toNat)
  case atStart => exact ⟨0, none, 0, rfl, Nat.zero_le _, rfl, Nat.zero_le _, by omega, Row.nil, Below.refl _ _⟩
  case round =>
    obtain ⟨k, R, c1, rfl, hk, rfl, hc1, hcm1, hrow, hb⟩ := hrel
    have HROW := Lib.hid hrow
    have HB := Lib.hid hb
    by_cases hlt : k < l.length
    · have hlt' : (k : Int) < l.length := by omega
      obtain ⟨s, hsk⟩ : ∃ s, l[k]? = some s := ⟨_, List.getElem?_eq_getElem hlt⟩
      have hok := HS.out.ok s (List.mem_of_getElem? hsk)
      obtain ⟨b, off, hA, hbl, hat⟩ := HS.out.at_ (by omega)
      obtain ⟨Fa, Fc, Ia, Ic, k0, k1, k2, k3, k4, k5, k6, hF, hFc, hFm, hI, hIc, hIm⟩ := (hat k s hsk).below hb hbl
      subst hA
      have HSK := Lib.hid hsk
      have HOK := Lib.hid hok
      have HF := Lib.hid hF
      have HI := Lib.hid hI
      have hzw := hb.size
      have hbw : b < wr.heap.size := by omega
      clear hrow hb hat hF hI hsk hok
      obtain ⟨wo, hwo⟩ : ∃ wo : World, wo = wr := ⟨_, rfl⟩
      subst hwo
      go_upto_region 6 with fail
      have HL0 := Lib.hid (show SymLoc (wo.alloc (.cells #[.string s.name, .int .i64 s.kind, .int .i64 s.elem, .int .i64 s.n, .slice Fa s.fields.length Fc, .bool s.retain, .slice Ia s.init.length Ic] 34)) wo.heap.size s Fa Fc Ia Ic by constructor <;> go_simp)
      go_cut [19, 20] (fun v19 v20 wx => v19 = .int .i64 s.count ∧ v20 = .int .i64 0 ∧ SymLoc wx wo.heap.size s Fa Fc Ia Ic ∧ Below wo.heap.size wo wx ∧ wo.heap.size < wx.heap.size)
      case first =>
        have hcnt : (s.count : Int) = min (max (sizeOf8 s.kind s.n s.fields) 0) 64 := by unfold SymD.count SymD.size; omega
        generalize s.count = cn at *
        go_wp2_with fail
        refine (sizeT_any s.kind s.elem s.n Fa s.fields.length Fc s.fields _ (((HF.out.more hzw).alloc (Nat.le_refl _) _).more (by simp)) HOK.out.fields rfl hFc hFm).mono ?_
        rintro e ws ⟨rfl, hbs⟩
        have HBS := Lib.hid hbs
        have HC := Lib.hid hcnt
        clear hbs hcnt
        go_wp2_with fail
        all_goals go_meet
        all_goals refine ⟨?_, rfl, HL0.out.below HBS.out (by simp), ((Below.refl _ wo).alloc (Nat.le_refl _) _).trans (HBS.out.mono (by simp)), by have := HBS.out.size; simp at this; omega⟩
        all_goals (rw [HC.out]; congr 1; omega)
      case rest =>
      obtain ⟨rfl, rfl, hloc, hbx, hszx⟩ := hcut
      have h64 := s.count_le
      have HLX := Lib.hid hloc
      have HBX := Lib.hid hbx
      generalize hwd : wc = wd at *
      clear hloc hbx hwd HL0 k0 k1 k2 k3 k4 k5 k6
      go_wp2_with fail
      go_loopw [6, 20] (fun row i wr => InnerRel wd 36 s row i wr) (fun _ i _ => s.count - (intOf i).toNat)
      case atStart => exact ⟨0, rfl, Nat.zero_le _, World.ownsRow_nil _ _ _ _, Below.refl _ _⟩
      case round =>
        obtain ⟨j, rfl, hj, hown, hbr⟩ := hrel
        have HOW := Lib.hid hown
        have HBR := Lib.hid hbr
        have hzr := hbr.size
        have HLR := Lib.hid (HLX.out.below hbr hszx)
        have HFR := Lib.hid (show Row wr wr.heap.size 2 Fa s.fields.length (fieldRow s.fields) from ((HF.out.more hzw).below (HBX.out.trans (hbr.mono (by omega)))).more (by omega))
        have HIR := Lib.hid (show Row wr wr.heap.size 1 Ia s.init.length (s.init.map (Value.int .i64)) from ((HI.out.more hzw).below (HBX.out.trans (hbr.mono (by omega)))).more (by omega))
        clear hown hbr
        by_cases hjl : j < s.count
        · have hjl' : (j : Int) < s.count := by omega
          have hgr : wo.heap.size < wr.heap.size := by omega
          obtain ⟨l0, l1, l2, l3, l4, l5, l6⟩ := HLR.out
          have qz : wo.heap.size ≤ wr.heap.size := by omega
          have qn : ¬ wr.heap.size = wo.heap.size := by omega
          have qm : ¬ wo.heap.size = wr.heap.size := by omega
          go_upto_region 9 with fail
          go_cut [8] (fun v8 wx => ∃ g : Nat, v8 = .pointer (some ⟨g, 0, none⟩) ∧ wr.heap.size ≤ g ∧ g < wx.heap.size ∧ CellAt wx g (pathOf s.name s.kind s.fields j) (kindOf s.kind s.elem s.fields j) s.retain 0 0 0 ∧ Below wr.heap.size wr wx)
          case first =>
            go_region_held3 (fun w' => w'.cell? ⟨wo.heap.size, 0, none⟩ = some (.string s.name) ∧ w'.cell? ⟨wo.heap.size, 1, none⟩ = some (.int .i64 s.kind) ∧ w'.cell? ⟨wo.heap.size, 2, none⟩ = some (.int .i64 s.elem) ∧ w'.cell? ⟨wo.heap.size, 3, none⟩ = some (.int .i64 s.n) ∧ w'.cell? ⟨wo.heap.size, 4, none⟩ = some (.slice Fa s.fields.length Fc) ∧ w'.cell? ⟨wo.heap.size, 5, none⟩ = some (.bool s.retain) ∧ w'.cell? ⟨wo.heap.size, 6, none⟩ = some (.slice Ia s.init.length Ic)) (first | exact keepSym (B := wr.heap.size) (u1 := wr) (by repeat (first | (with_reducible exact HB2.out) | (with_reducible exact HB3.out) | (with_reducible exact Below.refl _ _) | (with_reducible refine Below.setCell ?_ (by first | omega | (simp; done) | (simp; omega)) _) | (with_reducible refine Below.drew ?_) | (with_reducible refine Below.alloc ?_ (by first | omega | (simp; done) | (simp; omega)) _))) hgr l0 l1 l2 l3 l4 l5 l6)
              (first | (go_at_call 17; refine (path_any s.name s.kind s.elem s.n Fa s.fields.length Fc s.fields s.retain Ia s.init.length Ic j _ ((HFR.out.below (by repeat (first | (with_reducible exact HB2.out) | (with_reducible exact HB3.out) | (with_reducible exact Below.refl _ _) | (with_reducible refine Below.setCell ?_ (by first | omega | (simp; done) | (simp; omega)) _) | (with_reducible refine Below.drew ?_) | (with_reducible refine Below.alloc ?_ (by first | omega | (simp; done) | (simp; omega)) _)))).more (by first | omega | (simp; done) | (simp; omega))) HOK.out.fields rfl hFc hFm (by omega) HOK.out.name HOK.out.fnames).mono ?_; rintro e u2 ⟨rfl, hb2⟩; have z2 := hb2.size; (try simp at z2); have HB2 := Lib.hid (show Below wr.heap.size wr u2 from Below.trans (by repeat (first | (with_reducible exact HB3.out) | (with_reducible exact Below.refl _ _) | (with_reducible refine Below.setCell ?_ (by first | omega | (simp; done) | (simp; omega)) _) | (with_reducible refine Below.drew ?_) | (with_reducible refine Below.alloc ?_ (by first | omega | (simp; done) | (simp; omega)) _))) (hb2.mono (by first | omega | (simp; done) | (simp; omega)))); (try have p2z0 : wr.heap.size < u2.heap.size := by omega); (try have p2y0 : wr.heap.size ≤ u2.heap.size := by omega); (try have p2v0 : ¬ u2.heap.size = wr.heap.size := by omega); (try have p2u0 : ¬ wr.heap.size = u2.heap.size := by omega); (try have p2c0 := dcell hb2 (b := wr.heap.size) (by first | omega | (simp; done) | (simp; omega))); (try have p2f0 := dfroz hb2 (b := wr.heap.size) (by first | omega | (simp; done) | (simp; omega))); (try have p2z1 : u3.heap.size < u2.heap.size := by omega); (try have p2y1 : u3.heap.size ≤ u2.heap.size := by omega); (try have p2v1 : ¬ u2.heap.size = u3.heap.size := by omega); (try have p2u1 : ¬ u3.heap.size = u2.heap.size := by omega); (try have p2c1 := dcell hb2 (b := u3.heap.size) (by first | omega | (simp; done) | (simp; omega))); (try have p2f1 := dfroz hb2 (b := u3.heap.size) (by first | omega | (simp; done) | (simp; omega))); clear hb2) | (go_at_call 18; refine (kind_any s.kind s.elem s.n Fa s.fields.length Fc s.fields j _ ((HFR.out.below (by repeat (first | (with_reducible exact HB2.out) | (with_reducible exact HB3.out) | (with_reducible exact Below.refl _ _) | (with_reducible refine Below.setCell ?_ (by first | omega | (simp; done) | (simp; omega)) _) | (with_reducible refine Below.drew ?_) | (with_reducible refine Below.alloc ?_ (by first | omega | (simp; done) | (simp; omega)) _)))).more (by first | omega | (simp; done) | (simp; omega))) HOK.out.fields rfl hFc hFm (by omega)).mono ?_; rintro e u3 ⟨rfl, hb3⟩; have z3 := hb3.size; (try simp at z3); have HB3 := Lib.hid (show Below wr.heap.size wr u3 from Below.trans (by repeat (first | (with_reducible exact HB2.out) | (with_reducible exact Below.refl _ _) | (with_reducible refine Below.setCell ?_ (by first | omega | (simp; done) | (simp; omega)) _) | (with_reducible refine Below.drew ?_) | (with_reducible refine Below.alloc ?_ (by first | omega | (simp; done) | (simp; omega)) _))) (hb3.mono (by first | omega | (simp; done) | (simp; omega)))); (try have p3z0 : wr.heap.size < u3.heap.size := by omega); (try have p3y0 : wr.heap.size ≤ u3.heap.size := by omega); (try have p3v0 : ¬ u3.heap.size = wr.heap.size := by omega); (try have p3u0 : ¬ wr.heap.size = u3.heap.size := by omega); (try have p3c0 := dcell hb3 (b := wr.heap.size) (by first | omega | (simp; done) | (simp; omega))); (try have p3f0 := dfroz hb3 (b := wr.heap.size) (by first | omega | (simp; done) | (simp; omega))); (try have p3z1 : u2.heap.size < u3.heap.size := by omega); (try have p3y1 : u2.heap.size ≤ u3.heap.size := by omega); (try have p3v1 : ¬ u3.heap.size = u2.heap.size := by omega); (try have p3u1 : ¬ u2.heap.size = u3.heap.size := by omega); (try have p3c1 := dcell hb3 (b := u2.heap.size) (by first | omega | (simp; done) | (simp; omega))); (try have p3f1 := dfroz hb3 (b := u2.heap.size) (by first | omega | (simp; done) | (simp; omega))); clear hb3))
            all_goals (try go_wp2_with fail)
            all_goals go_meet
            all_goals refine ⟨_, rfl, (by first | omega | (simp; done) | (simp; omega)), (by first | omega | (simp; done) | (simp; omega)), ?_, ?_⟩
            all_goals first | (constructor <;> go_simp; done) | repeat (first | (with_reducible exact HB2.out) | (with_reducible exact HB3.out) | (with_reducible exact Below.refl _ _) | (with_reducible refine Below.setCell ?_ (by first | omega | (simp; done) | (simp; omega)) _) | (with_reducible refine Below.drew ?_) | (with_reducible refine Below.alloc ?_ (by first | omega | (simp; done) | (simp; omega)) _))
          case rest =>
          obtain ⟨g, rfl, hg1, hg2, hca, hbc⟩ := hcut
          generalize hwd2 : wc = wb at *
          clear hwd2
          have HLC := Lib.hid (HLR.out.below hbc hgr)
          have HIC := Lib.hid (HIR.out.below hbc)
          have HOC := Lib.hid (row_keep HOW.out hbc)
          have HBC := Lib.hid hbc
          have hcase := hca
          have hzc := hbc.size
          clear hbc hca l0 l1 l2 l3 l4 l5 l6 HLR HFR HIR
          obtain ⟨l0, l1, l2, l3, l4, l5, l6⟩ := HLC.out
          obtain ⟨a0, a1, a2, a3, a4, a5, f0, f1, f2, f3, f4, f5⟩ := hcase
          have hgn : ¬ g = wo.heap.size := by omega
          have hgm : ¬ wo.heap.size = g := by omega
          go_upto_if 37 with fail
          go_cut [] (fun wx => CellAt wx g (pathOf s.name s.kind s.fields j) (kindOf s.kind s.elem s.fields j) s.retain (s.init.getD j 0) 0 0 ∧ Below wr.heap.size wb wx ∧ wx.heap.size = wb.heap.size)
          case first =>
            by_cases hin : j < s.init.length
            · have hin' : (j : Int) < s.init.length := by omega
              obtain ⟨ib, io, rfl, _, hic⟩ := HIC.out.2 (by omega)
              have hx : wb.cell? ⟨ib, io + j, none⟩ = some (.int .i64 (s.init.getD j 0)) := hic j _ (by simp [List.getD_eq_getElem?_getD, List.getElem?_eq_getElem hin])
              clear hic
              generalize s.init.getD j 0 = q at *
              go_wp2
              go_meet
              exact ⟨by constructor <;> go_simp, (Below.refl _ _).setCell hg1 _, by simp⟩
            · have HQ := Lib.hid (show s.init.getD j 0 = 0 by rw [List.getD_eq_getElem?_getD, List.getElem?_eq_none (by omega)]; rfl)
              go_wp2
              go_meet
              rw [HQ.out]
              exact ⟨⟨a0, a1, a2, a3, a4, a5, f0, f1, f2, f3, f4, f5⟩, Below.refl _ _, rfl⟩
          case rest =>
          obtain ⟨hca, hbe, hsze⟩ := hcut
          generalize hwe : wc = we at *
          clear hwe a0 a1 a2 a3 a4 a5 f0 f1 f2 f3 f4 f5
          have hwoz : wo.heap.size < wr.heap.size := hgr
          have HLE := Lib.hid (SymLoc.mk l0 l1 l2 l3 l4 l5 l6 |>.below (hbe.mono (Nat.le_refl _)) hgr)
          have HOE := Lib.hid (row_keep (u := we) HOW.out (HBC.out.trans hbe))
          have HBE := Lib.hid (HBC.out.trans hbe)
          have hge : g < we.heap.size := by omega
          clear l0 l1 l2 l3 l4 l5 l6 hbe
          obtain ⟨l0, l1, l2, l3, l4, l5, l6⟩ := HLE.out
          obtain ⟨a0, a1, a2, a3, a4, a5, f0, f1, f2, f3, f4, f5⟩ := hca
          generalize hq : s.init.getD j 0 = q at *
          have HQ := Lib.hid hq
          clear hq
          go_upto_block 4 with fail
          go_cut [] (fun wx => CellAt wx g (pathOf s.name s.kind s.fields j) (kindOf s.kind s.elem s.fields j) s.retain q (if j = 0 ∧ s.kind = 7 then s.n else 0) (if j = 0 ∧ (s.kind = 9 ∨ s.kind = 10) then s.kind else 0) ∧ Below wr.heap.size we wx ∧ wx.heap.size = we.heap.size)
          case first =>
            have SAME := Lib.hid (CellAt.mk a0 a1 a2 a3 a4 a5 f0 f1 f2 f3 f4 f5)
            by_cases hj0 : j = 0
            · subst hj0
              by_cases h7 : s.kind = 7
              · have HK := Lib.hid h7
                have h7' : (s.kind == 7) = true := by simpa using h7
                clear h7
                go_wp2
                go_meet
                rw [if_pos ⟨by trivial, HK.out⟩, if_neg (by rw [HK.out]; decide)]
                exact ⟨by constructor <;> go_simp, (Below.refl _ _).setCell hg1 _, by simp⟩
              · have h7' : (s.kind == 7) = false := by simpa using h7
                by_cases h9 : s.kind = 9
                · have HK := Lib.hid h9
                  have h9' : (s.kind == 9) = true := by simpa using h9
                  clear h9
                  go_wp2
                  go_meet
                  rw [if_neg (by rw [HK.out]; decide), if_pos ⟨by trivial, .inl HK.out⟩]
                  exact ⟨by constructor <;> go_simp, (Below.refl _ _).setCell hg1 _, by simp⟩
                · have h9' : (s.kind == 9) = false := by simpa using h9
                  by_cases h10 : s.kind = 10
                  · have HK := Lib.hid h10
                    have h10' : (s.kind == 10) = true := by simpa using h10
                    clear h10
                    go_wp2
                    go_meet
                    rw [if_neg (by rw [HK.out]; decide), if_pos ⟨by trivial, .inr HK.out⟩]
                    exact ⟨by constructor <;> go_simp, (Below.refl _ _).setCell hg1 _, by simp⟩
                  · have h10' : (s.kind == 10) = false := by simpa using h10
                    have N7 := Lib.hid h7
                    have N9 := Lib.hid h9
                    have N10 := Lib.hid h10
                    go_wp2
                    go_meet
                    rw [if_neg (fun h => N7.out h.2), if_neg (fun h => h.2.elim N9.out N10.out)]
                    exact ⟨SAME.out, Below.refl _ _, rfl⟩
            · have hj0' : (0 : Int) < j := by omega
              have HJ := Lib.hid hj0
              go_wp2
              go_meet
              rw [if_neg (fun h => HJ.out h.1), if_neg (fun h => HJ.out h.1)]
              exact ⟨SAME.out, Below.refl _ _, rfl⟩
          case rest =>
          obtain ⟨hca, hbf, hszf⟩ := hcut
          generalize hwf : wc = wf at *
          clear hwf a0 a1 a2 a3 a4 a5 f0 f1 f2 f3 f4 f5 l0 l1 l2 l3 l4 l5 l6
          have HBF := Lib.hid (HBE.out.trans hbf)
          have HOF := Lib.hid (row_keep (u := wf) HOW.out HBF.out)
          obtain ⟨a0, a1, a2, a3, a4, a5, f0, f1, f2, f3, f4, f5⟩ := hca
          have HCELL := Lib.hid (show s.cell j = ⟨pathOf s.name s.kind s.fields j, kindOf s.kind s.elem s.fields j, s.retain, q, (if j = 0 ∧ s.kind = 7 then s.n else 0), (if j = 0 ∧ (s.kind = 9 ∨ s.kind = 10) then s.kind else 0)⟩ by rw [← HQ.out]; rfl)
          generalize (if j = 0 ∧ s.kind = 7 then s.n else 0) = ln at *
          generalize (if j = 0 ∧ (s.kind = 9 ∨ s.kind = 10) then s.kind else 0) = bl at *
          generalize hpp : pathOf s.name s.kind s.fields j = pp at *
          generalize hkk : kindOf s.kind s.elem s.fields j = kk at *
          clear hpp hkk HQ hbf
          have hzf : wd.heap.size ≤ wf.heap.size := by omega
          have HBW := Lib.hid (HBR.out.trans (HBF.out.mono hzr))
          go_wp2_with (at_builtin; refine wpList_append_own _ rfl _ _ 26 rfl wd.heap.size 36 i0 _ 6 56 t27 hi hz0 hz1 hz2 rfl (by decide) _ j (cellRow ((List.range j).map s.cell)) rfl (HOF.out.alloc _) ⟨_, 0, none⟩ 1 1 (cellCells ⟨pp, kk, s.retain, q, ln, bl⟩) rfl ?qc1 ?qc2 ?qc3 ?qc4 ?qc5 ?qc6 ?_)
          case qc1 => rfl
          case qc2 =>
            intro i u hj
            rw [Addr.add_lit]
            have hj' : i < 6 := by have := (List.getElem?_eq_some_iff.1 hj).1; simpa [cellCells] using this
            rcases (show i = 0 ∨ i = 1 ∨ i = 2 ∨ i = 3 ∨ i = 4 ∨ i = 5 by omega) with rfl | rfl | rfl | rfl | rfl | rfl <;> (simp [cellCells] at hj; subst hj; go_simp)
          case qc3 => exact cellCells_one _
          case qc4 => unfold maxLen; omega
          case qc5 => omega
          case qc6 => simp; omega
          intro v' w1 hown hgrow hnil
          have HO1 := Lib.hid hown
          have HB1 := Lib.hid (show Below wd.heap.size wd w1 from (HBW.out.alloc hzf _).grown hgrow (by simp; omega) (fun k hk => (HOF.out.lt k hk).1))
          clear hown hgrow hnil a0 a1 a2 a3 a4 a5 f0 f1 f2 f3 f4 f5
          go_wp2
          go_roundw
          case rel =>
            refine ⟨j + 1, rfl, by omega, ?_, HB1.out⟩
            have h := HO1.out
            rw [← HCELL.out] at h
            rw [List.range_succ, List.map_append, cellRow, List.flatMap_append]
            simpa [cellRow] using h
          case measure => simp [intOf]; omega
        · have hjs : j = s.count := by omega
          subst hjs
          obtain ⟨Ar, cr, rfl, hcr, hcrm⟩ := own_slice HOW.out
          have HRr := Lib.hid (Row.of_own HOW.out)
          have HBO := Lib.hid (HBX.out.trans (HBR.out.mono (Nat.le_of_lt hszx)))
          have hzo := HBO.out.size
          have HRo := Lib.hid ((HROW.out.below HBO.out).more hzo)
          have hlen := cellsOf_length_le (l.take k)
          have htl : (l.take k).length ≤ 10000 := by rw [List.length_take]; omega
          have PT := Lib.hid (put_any R (cellsOf (l.take k)).length c1 (cellRow (cellsOf (l.take k))) Ar s.count cr (cellRow ((List.range s.count).map s.cell)) wr HRo.out HRr.out (by omega) hc1 hcm1)
          clear hlen htl
          go_wp2_with fail
          refine PT.out.mono ?_
          rintro e u ⟨⟨R', c', rfl, hcc, hcm', hrow'⟩, hb'⟩
          have HR' := Lib.hid hrow'
          have HB' := Lib.hid (HB.out.trans ((HBO.out.trans (hb'.mono hzo)).mono hzw))
          have HCC := Lib.hid hcc
          have HCM := Lib.hid hcm'
          clear hrow' hb' hcc hcm'
          go_wp2
          go_roundw
          case rel =>
            have e1 : cellsOf (l.take (k + 1)) = cellsOf (l.take k) ++ s.cells := by
              rw [List.take_add_one, HSK.out]
              simp [cellsOf]
            have e2 : (cellsOf (l.take (k + 1))).length = (cellsOf (l.take k)).length + s.count := by rw [e1, List.length_append, s.cells_length]
            have e3 : cellRow (cellsOf (l.take (k + 1))) = cellRow (cellsOf (l.take k)) ++ cellRow ((List.range s.count).map s.cell) := by rw [e1]; simp [cellRow, SymD.cells]
            refine ⟨k + 1, R', c', rfl, by omega, by rw [e2], by rw [e2]; exact HCC.out, HCM.out, ?_, HB'.out⟩
            rw [e2, e3]
            exact HR'.out
          case measure => simp [intOf]; omega
    · have hkl : k = l.length := by omega
      subst hkl
      have hlen := cellsOf_length_le (l.take l.length)
      rw [List.take_length] at *
      have PT := Lib.hid (put_any none 0 0 [] R (cellsOf l).length c1 (cellRow (cellsOf l)) wr Row.nil HROW.out (by omega) (Nat.le_refl _) (by omega))
      clear hlen hb hrow
      go_wp2_with fail
      refine PT.out.mono ?_
      rintro e u ⟨⟨R', c', rfl, hcc, hcm', hrow'⟩, hb'⟩
      have HR' := Lib.hid hrow'
      have HB' := Lib.hid (HB.out.trans (hb'.mono HB.out.size))
      have HCC := Lib.hid hcc
      have HCM := Lib.hid hcm'
      clear hrow' hb' hcc hcm'
      go_wp2
      go_ret
      refine ⟨⟨R', c', by simp, by have := HCC.out; omega, HCM.out, ?_⟩, HB'.out⟩
      have := HR'.out
      simpa using this
end Go.Proofs.YtgeeicgdgncmpaaDoor
