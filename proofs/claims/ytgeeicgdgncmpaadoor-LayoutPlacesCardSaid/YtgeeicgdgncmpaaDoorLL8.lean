/- The walk of LayoutPlaces. -/
import Derived.Test.YtgeeicgdgncmpaaDoorGD8
import Derived.Test.YtgeeicgdgncmpaaDoorLx8
namespace Go.Proofs.YtgeeicgdgncmpaaDoor
open Go.RowKit Go.BigFrame
set_option linter.unusedVariables false
set_option linter.unusedSimpArgs false
attribute [local go_sem ↓] Go.wp_at_zero Go.wp_at_succ

theorem SymAt.moreB {w : World} {B B' b off : Nat} {s : SymD} (h : SymAt w B b off s) (hB : B ≤ B') : SymAt w B' b off s := by
  obtain ⟨Fa, Fc, Ia, Ic, c0, c1, c2, c3, c4, c5, c6, h1, h2, h3, h4, h5⟩ := h
  exact ⟨Fa, Fc, Ia, Ic, c0, c1, c2, c3, c4, c5, c6, h1.more hB, h2, h3, h4.more hB, h5⟩
theorem SymsRaw.moreB {w w' : World} {A : Option Addr} {n : Nat} {l : List SymD} (h : SymsRaw w w.heap.size A n l) (hb : Below w.heap.size w w') : SymsRaw w' w'.heap.size A n l :=
  ⟨h.len, fun hn => by
    obtain ⟨b, off, e, hlt, hs⟩ := h.at_ hn
    exact ⟨b, off, e, Nat.lt_of_lt_of_le hlt hb.size, fun i s hi => ((hs i s hi).below hb hlt).moreB hb.size⟩, h.raw⟩
theorem Syms.moreT {w : World} {B B' : Nat} {A : Option Addr} {n : Nat} {l : List SymD} (h : Syms w B A n l) (hB : B ≤ B') : Syms w B' A n l :=
  ⟨h.len, fun hn => by
    obtain ⟨b, off, e, hlt, hs⟩ := h.at_ hn
    exact ⟨b, off, e, Nat.lt_of_lt_of_le hlt hB, fun i s hi => (hs i s hi).moreB hB⟩, h.ok⟩
theorem syms_of {w : World} {B : Nat} {A : Option Addr} {c : Nat} {ps : List SymP} (ho : w.ownsRow B 34 7 (.slice A ps.length c) ps.length (symRow ps)) (hk : ∀ p ∈ ps, KeptSym w B p ∧ GoodS p.s) : Syms w w.heap.size A ps.length (ps.map SymP.s) := by
  refine ⟨by simp, fun hn => ?_, fun s hs => ?_⟩
  · obtain ⟨g, cap, hv, hg, hlt⟩ := ho.form hn
    obtain rfl : A = some ⟨g, 0, none⟩ := by injection hv
    refine ⟨g, 0, rfl, hlt, fun i s hi => ?_⟩
    obtain ⟨p, hp, rfl⟩ : ∃ p, ps[i]? = some p ∧ p.s = s := by
      rw [List.getElem?_map] at hi
      cases h : ps[i]? with
      | none => rw [h] at hi; cases hi
      | some p => rw [h] at hi; exact ⟨p, rfl, by simpa using hi⟩
    have hkp := (hk p (List.mem_of_getElem? hp)).1
    have hc : ∀ j u, (symCells p)[j]? = some u → w.cell? ⟨g, 0 + i * 7 + j, none⟩ = some u := fun j u hj => by
      have hj7 : j < 7 := by have := (List.getElem?_eq_some_iff.1 hj).1; simpa [symCells] using this
      have h := ho.cells rfl (i * 7 + j) u ((flat_get symCells 7 symCells_length ps i j p hp hj7).trans hj)
      rw [Addr.add_lit] at h
      rw [Nat.add_assoc]
      exact h
    obtain ⟨_, f2, hvf, f3, f4⟩ := own_slice hkp.f
    obtain ⟨_, i2, hvi, i3, i4⟩ := own_slice hkp.i
    obtain rfl : p.Fc = f2 := by injection hvf
    obtain rfl : p.Ic = i2 := by injection hvi
    unfold maxLen at f4 i4
    exact ⟨p.Fa, p.Fc, p.Ia, p.Ic, hc 0 _ rfl, hc 1 _ rfl, hc 2 _ rfl, hc 3 _ rfl, hc 4 _ rfl, hc 5 _ rfl, hc 6 _ rfl, Row.of_own hkp.f, f3, by omega, Row.of_own hkp.i, i3, by omega⟩
  · obtain ⟨p, hp, rfl⟩ := List.mem_map.1 hs
    have hg := (hk p hp).2
    have h1 := hg.name
    have h2 := hg.typ.len
    have h3 := hg.typ.size
    have h4 := hg.size
    unfold SymD.size at h4
    exact ⟨by omega, by omega, fun f hf => by have := hg.typ.names f hf; omega, by omega⟩

set_option maxRecDepth 100000 in
theorem path_front (s : SymD) (i : Nat) : ∃ r, pathOf s.name s.kind s.fields i = s.name ++ r := by
  unfold pathOf
  split
  · exact ⟨{ data := #[91] } ++ (digits2 i ++ { data := #[93] }), by rw [ByteArray.append_assoc, ByteArray.append_assoc]⟩
  · split
    · exact ⟨{ data := #[46] } ++ _, by rw [ByteArray.append_assoc]⟩
    · exact ⟨{ data := #[] }, by apply ByteArray.ext; rw [ByteArray.data_append]; exact (Array.append_empty).symm⟩
theorem front_cut (a r : ByteArray) : (a ++ r).extract 0 a.size = a := by
  apply ByteArray.ext
  rw [ByteArray.data_extract, ByteArray.data_append]
  show (a.data ++ r.data).extract 0 a.data.size = a.data
  simp

theorem cut_slice (W : World) (P nm : ByteArray) (h : P.extract 0 nm.size = nm) (hle : nm.size ≤ P.size) : (Instr.slice 9 (.string P) none (some (.int .i64 (nm.size : Int))) none).run Tryd.prog W = .ok (.string nm) W := by
  have ht := Tryd.underlying9
  have h2 : (nm.size : Int) ≤ P.size := by omega
  have h3 : (0 : Int) ≤ nm.size := by omega
  simp [Instr.slice, run_underlying ht, Instr.sliceBounds, go_sem, h2, h3, h]
theorem cut_sliceAt (W : World) (P nm : ByteArray) (h : P.extract 0 nm.size = nm) (hle : nm.size ≤ P.size) : (Instr.sliceAt 9 (.string P) none (some (.int .i64 (nm.size : Int))) none).run Tryd.prog W = .ok (.string nm) W := by
  rw [run_sliceAt_string (P := Tryd.prog) _ _ _ _ _ _ Tryd.underlying9]
  exact cut_slice W P nm h hle
attribute [local go_sem high] cut_sliceAt cut_slice

def uptoN (l : List SymD) (j : Nat) : Nat := (cellsOf (l.take j)).length
theorem uptoN_succ {l : List SymD} {j : Nat} {s : SymD} (h : l[j]? = some s) : uptoN l (j + 1) = uptoN l j + s.count := by
  unfold uptoN
  rw [List.take_add_one, h]
  simp [cellsOf, s.cells_length]
theorem uptoN_all (l : List SymD) : uptoN l l.length = (cellsOf l).length := by unfold uptoN; rw [List.take_length]
theorem cells_at {l : List SymD} {j q : Nat} {s : SymD} (h : l[j]? = some s) (hq : q < s.count) : (cellsOf l)[uptoN l j + q]? = some (s.cell q) := by
  have hj := (List.getElem?_eq_some_iff.1 h).1
  have e : l = l.take j ++ s :: l.drop (j + 1) := by
    obtain ⟨_, h2⟩ := List.getElem?_eq_some_iff.1 h
    have h3 := List.drop_eq_getElem_cons hj
    rw [h2] at h3
    rw [← h3, List.take_append_drop]
  have e2 : cellsOf l = cellsOf (l.take j) ++ (s.cells ++ cellsOf (l.drop (j + 1))) := by
    conv => lhs; rw [e]
    simp [cellsOf]
  rw [e2, List.getElem?_append_right (by unfold uptoN; omega)]
  rw [show uptoN l j + q - (cellsOf (l.take j)).length = q by unfold uptoN; omega]
  rw [List.getElem?_append_left (by rw [s.cells_length]; exact hq)]
  simp [SymD.cells, hq]
theorem uptoN_lt {l : List SymD} {j q : Nat} {s : SymD} (h : l[j]? = some s) (hq : q < s.count) : uptoN l j + q < (cellsOf l).length := (List.getElem?_eq_some_iff.1 (cells_at h hq)).1
theorem GoodS.count {s : SymD} (h : GoodS s) : s.count = s.init.length ∧ 1 ≤ s.init.length ∧ s.init.length ≤ 8 ∧ sizeOf8 s.kind s.n s.fields = (s.init.length : Int) := by
  have h1 := h.typ.size
  have h2 := h.size
  have h3 : s.size = sizeOf8 s.kind s.n s.fields := rfl
  unfold SymD.count
  omega

def PlacesRel (w4 : World) (l : List SymD) (a i : Value) (wr : World) : Prop := ∃ j : Nat, i = .int .i64 j ∧ j ≤ l.length ∧ a = .int .i64 (uptoN l j : Nat) ∧ Below w4.heap.size w4 wr
def PlacesIn (w4 : World) (l : List SymD) (j z : Nat) (a k : Value) (wr : World) : Prop := ∃ q : Nat, k = .int .i64 q ∧ q ≤ z ∧ a = .int .i64 (uptoN l j + q : Nat) ∧ Below w4.heap.size w4 wr

set_option maxHeartbeats 16000000 in
set_option maxRecDepth 100000 in
theorem layoutPlaces_walk (A : Option Addr) (n c : Nat) (l : List SymD) (w : World) (hs : SymsRaw w w.heap.size A n l) (hcc : n ≤ c ∧ c ≤ 9223372036854775807) :
    Calls Tryd.prog 3 #[.slice A n c] w fun e w' => e = .returned (.bool true) ∧ Below w.heap.size w w' := by
  obtain ⟨hc, hcm⟩ := hcc
  have HS := Lib.hid hs
  clear hs
  go_enter Tryd.func3, Tryd.ntmps3
  go_wp2_with fail
  refine (known8_any _).mono ?_
  rintro e w1 ⟨rfl, hb1⟩
  have HS1 := Lib.hid (show SymsRaw w1 w1.heap.size A n l from HS.out.moreB hb1)
  have HB1 := Lib.hid hb1
  clear hb1
  go_wp2_with fail
  refine (few8_any A n c l w1 HS1.out hc hcm).mono ?_
  rintro e w2 ⟨⟨bb, rfl, hbb⟩, hb2⟩
  have HS2 := Lib.hid (show SymsRaw w2 w2.heap.size A n l from HS1.out.moreB hb2)
  have HB2 := Lib.hid (HB1.out.trans (hb2.mono HB1.out.size))
  have HBB := Lib.hid hbb
  clear hb2 hbb
  cases bb with
  | false =>
    go_wp2
    go_ret
    exact ⟨rfl, HB2.out⟩
  | true =>
  have hsm := (HBB.out (by trivial)).2
  go_wp2_with fail
  refine (good8_any A n c l w2 HS2.out hc hcm hsm).mono ?_
  rintro e w3 ⟨v, ps, rfl, hown, hps, hp10, hb3⟩
  obtain ⟨GA, GC, rfl, hgc, hgm⟩ := own_slice hown
  unfold maxLen at hgm
  have HSY := Lib.hid (syms_of hown hps)
  have HG := Lib.hid (fun p hp => (hps p hp).2)
  have HB3 := Lib.hid (HB2.out.trans (hb3.mono HB2.out.size))
  clear hown hps hb3 hsm
  obtain ⟨gl, hgl⟩ : ∃ gl : List SymD, gl = ps.map SymP.s := ⟨_, rfl⟩
  have hgl2 : ps.length = gl.length := by rw [hgl]; simp
  have HGL := Lib.hid (show ∀ s ∈ gl, GoodS s from fun s hs => by
    rw [hgl] at hs
    obtain ⟨p, hp, rfl⟩ := List.mem_map.1 hs
    exact HG.out p hp)
  rw [← hgl] at HSY
  rw [hgl2] at hgc hp10 HSY ⊢
  clear hgl hgl2 HG
  have CC := Lib.hid (cells_any GA gl.length GC gl w3 HSY.out (by omega) hgc (by omega))
  go_wp2_with fail
  refine CC.out.mono ?_
  rintro e w4 ⟨⟨CA, CK, rfl, hk1, hk2, hrow⟩, hb4⟩
  have HSY4 := Lib.hid ((HSY.out.below hb4).moreT hb4.size)
  have HB4 := Lib.hid (HB3.out.trans (hb4.mono HB3.out.size))
  have HROW := Lib.hid hrow
  have hz4 := HB4.out.size
  obtain ⟨CL, hCL⟩ : ∃ CL, (cellsOf gl).length = CL := ⟨_, rfl⟩
  rw [hCL] at hk1 hrow HROW ⊢
  have HCL := Lib.hid hCL
  have hk1' : (CL : Int) ≤ CK := by omega
  have hk2' : (CK : Int) ≤ 9223372036854775807 := by omega
  have hgc' : (gl.length : Int) ≤ GC := by omega
  have hgm' : (GC : Int) ≤ 9223372036854775807 := by omega
  have hp10' : (gl.length : Int) ≤ 10 := by omega
  clear hb4 hrow hCL CC
  go_wp2_with fail
  go_loopw [5, 6] (fun a i wr => PlacesRel w4 gl a i wr) (fun _ i _ => gl.length - (intOf i).toNat)
  case atStart => exact ⟨0, rfl, Nat.zero_le _, by simp [uptoN, cellsOf], Below.refl _ _⟩
  case round =>
    obtain ⟨j, rfl, hj, rfl, hb⟩ := hrel
    have HB := Lib.hid hb
    by_cases hjl : j < gl.length
    · have hjl' : (j : Int) < gl.length := by omega
      obtain ⟨s, hx⟩ : ∃ s, gl[j]? = some s := ⟨_, List.getElem?_eq_getElem hjl⟩
      obtain ⟨gb, go, rfl, hgb, hat⟩ := HSY4.out.at_ (by omega)
      have HAT := Lib.hid (hat j s hx)
      have HGS := Lib.hid (HGL.out s (List.mem_of_getElem? hx))
      obtain ⟨hcnt, hz1, hz8, hzs⟩ := HGS.out.count
      have HX := Lib.hid hx
      obtain ⟨up, hup⟩ : ∃ up, uptoN gl j = up := ⟨_, rfl⟩
      have hupL : up + s.init.length ≤ CL := by
        have := uptoN_lt (q := s.count - 1) hx (by omega)
        have := HCL.out
        omega
      rw [hup]
      have HUP := Lib.hid hup
      obtain ⟨wo, hwo⟩ : ∃ x : World, x = wr := ⟨_, rfl⟩
      subst hwo
      have HCNT := Lib.hid hcnt
      have HZS := Lib.hid hzs
      have hz8' : (s.init.length : Int) ≤ 8 := by omega
      clear hat hx hb hup hcnt hzs
      go_wp2_with fail
      go_loopw [5, 7] (fun a k wr => PlacesIn w4 gl j s.init.length a k wr) (fun _ k _ => s.init.length - (intOf k).toNat)
      case atStart => exact ⟨0, rfl, Nat.zero_le _, by rw [HUP.out]; rfl, HB.out⟩
      case round =>
        obtain ⟨q, rfl, hq, rfl, hb⟩ := hrel
        rw [HUP.out]
        have HBq := Lib.hid hb
        by_cases hql : q < s.init.length
        · have hql' : (q : Int) < s.init.length := by omega
          have hz : w4.heap.size ≤ wr.heap.size := hb.size
          obtain ⟨Fa, Fc, Ia, Ic, d0, d1, d2, d3, d4, d5, d6, hF, hF1, hF2, hI, hI1, hI2⟩ := HAT.out.below hb hgb
          have SZ := Lib.hid (fun (u : World) (h : Row u u.heap.size 2 Fa s.fields.length (fieldRow s.fields)) => rsizeT_any s.kind s.elem s.n Fa s.fields.length Fc s.fields u h (by have := HGS.out.typ.len; omega) rfl hF1 hF2)
          rw [HZS.out] at SZ
          have HFR := Lib.hid (hF.more hz)
          obtain ⟨ib, io, rfl, hib, hic⟩ := hI.2 (by omega)
          have d7 : wr.cell? ⟨ib, io + q, none⟩ = some (.int .i64 (s.init.getD q 0)) := hic q _ (by simp [List.getD_eq_getElem?_getD, List.getElem?_eq_getElem hql])
          obtain ⟨cb, co, rfl, hcb, hcr⟩ := HROW.out.2 (by omega)
          have hcx := cells_at HX.out (q := q) (by rw [HCNT.out]; exact hql)
          rw [HUP.out] at hcx
          have hcc : ∀ (r : Nat) (u : Value), (cellCells (s.cell q))[r]? = some u → wr.cell? ⟨cb, co + (up + q) * 6 + r, none⟩ = some u := fun r u hr => by
            have hr6 : r < 6 := by have := (List.getElem?_eq_some_iff.1 hr).1; simpa [cellCells] using this
            have h := hcr ((up + q) * 6 + r) u ((flat_get cellCells 6 cellCells_length (cellsOf gl) (up + q) r _ hcx hr6).trans hr)
            rw [← Nat.add_assoc] at h
            exact (dcell hb hcb _).trans h
          have f0 : wr.cell? ⟨cb, co + (up + q) * 6, none⟩ = some (.string (pathOf s.name s.kind s.fields q)) := hcc 0 _ rfl
          have f2 : wr.cell? ⟨cb, co + (up + q) * 6 + 2, none⟩ = some (.bool s.retain) := hcc 2 _ rfl
          have f3 : wr.cell? ⟨cb, co + (up + q) * 6 + 3, none⟩ = some (.int .i64 (s.init.getD q 0)) := hcc 3 _ rfl
          have f4 : wr.cell? ⟨cb, co + (up + q) * 6 + 4, none⟩ = some (.int .i64 (if q = 0 ∧ s.kind = 7 then s.n else 0)) := hcc 4 _ rfl
          have f5 : wr.cell? ⟨cb, co + (up + q) * 6 + 5, none⟩ = some (.int .i64 (if q = 0 ∧ (s.kind = 9 ∨ s.kind = 10) then s.kind else 0)) := hcc 5 _ rfl
          obtain ⟨r, hr⟩ := path_front s q
          rw [hr] at f0
          have hcut := front_cut s.name r
          have hps : (s.name ++ r).size = s.name.size + r.size := by rw [ByteArray.size_append]
          generalize s.name ++ r = P at *
          have hnm2 := HGS.out.name
          have hp1 : ¬ (P.size : Int) < s.name.size := by omega
          have hp2 : (s.name.size : Int) ≤ P.size := by omega
          have hatL : ((up + q : Nat) : Int) < CL := by omega
          have hatL2 : ¬ (CL : Int) ≤ ((up + q : Nat) : Int) := by omega
          have hat0 : (0 : Int) ≤ ((up + q : Nat) : Int) := by omega
          obtain ⟨AT, hAT⟩ : ∃ AT, up + q = AT := ⟨_, rfl⟩
          rw [hAT] at f0 f2 f3 f4 f5 hatL hatL2 hat0 ⊢
          have hatN : AT < CL := by omega
          have hatD : decide (CL ≤ AT) = false := by simp; omega
          have hpD : decide (P.size < s.name.size) = false := by simp; omega
          have hpN : s.name.size ≤ P.size := by omega
          have HAT2 := Lib.hid hAT
          have HPS := Lib.hid hps
          have HNM := Lib.hid hnm2
          have hiI : (s.init.length : Int) ≤ Ic := by omega
          have hiI2 : (Ic : Int) ≤ 9223372036854775807 := by omega
          have HTY := Lib.hid HGS.out.typ
          have HD := Lib.hid (And.intro d0 (And.intro d1 (And.intro d5 (And.intro d6 d7))))
          have HF := Lib.hid (And.intro f0 (And.intro f2 (And.intro f3 (And.intro f4 f5))))
          have hcbw : cb < wr.heap.size := by omega
          have hibw : ib < wr.heap.size := by omega
          have hgbw : gb < wr.heap.size := by omega
          clear hF hF1 hF2 hI hI1 hI2 hic hcr hcx hcc hr hAT hps hnm2 hb
          go_wp2_with fail
          refine (SZ.out _ HFR.out).mono ?_
          rintro e' u ⟨rfl, hbu⟩
          obtain ⟨d0, d1, d5, d6, d7⟩ := HD.out
          obtain ⟨f0, f2, f3, f4, f5⟩ := HF.out
          replace d0 := (dcell hbu hgbw _).trans d0
          replace d1 := (dcell hbu hgbw _).trans d1
          replace d5 := (dcell hbu hgbw _).trans d5
          replace d6 := (dcell hbu hgbw _).trans d6
          replace d7 := (dcell hbu hibw _).trans d7
          replace f0 := (dcell hbu hcbw _).trans f0
          replace f2 := (dcell hbu hcbw _).trans f2
          replace f3 := (dcell hbu hcbw _).trans f3
          replace f4 := (dcell hbu hcbw _).trans f4
          replace f5 := (dcell hbu hcbw _).trans f5
          have HBU := Lib.hid (HBq.out.trans (hbu.mono hz))
          have hzu := hbu.size
          generalize s.init.getD q 0 = iv at *
          clear hbu d2 d3 d4
          go_upto_region 14 with fail
          go_cut [140] (fun v wx => v = .bool false ∧ Below u.heap.size u wx)
          case first =>
            obtain ⟨b7, hb7⟩ : ∃ b7, (s.kind == 7) = b7 := ⟨_, rfl⟩
            obtain ⟨b9, hb9⟩ : ∃ b9, decide ((9 : Int) ≤ s.kind) = b9 := ⟨_, rfl⟩
            have hl7 : decide ((0 : Int) < (if q = 0 ∧ s.kind = 7 then s.n else 0)) = (decide (q = 0) && b7) := by
              rw [← hb7]
              by_cases h : q = 0 ∧ s.kind = 7
              · rw [if_pos h]
                have := HTY.out.arr h.2
                simp [h.1, h.2]
                omega
              · rw [if_neg h]
                by_cases h0 : q = 0
                · have h7 : ¬ s.kind = 7 := fun h7 => h ⟨h0, h7⟩
                  simp [h0, h7]
                · simp [h0]
            have hl9 : decide ((0 : Int) < (if q = 0 ∧ (s.kind = 9 ∨ s.kind = 10) then s.kind else 0)) = (decide (q = 0) && b9) := by
              rw [← hb9]
              have hk := HTY.out.kind
              by_cases h : q = 0 ∧ (s.kind = 9 ∨ s.kind = 10)
              · rw [if_pos h]
                simp [h.1]
                rcases h.2 with h | h <;> simp [h]
              · rw [if_neg h]
                by_cases h0 : q = 0
                · have h9 : ¬ 9 ≤ s.kind := fun h9 => h ⟨h0, by omega⟩
                  simp [h0]
                  omega
                · simp [h0]
            generalize (if q = 0 ∧ s.kind = 7 then s.n else 0) = ln at *
            generalize (if q = 0 ∧ (s.kind = 9 ∨ s.kind = 10) then s.kind else 0) = bl at *
            generalize s.kind = kk at *
            by_cases hq0 : q = 0
            · have hq0' : ((q : Int) == 0) = true := by simp; omega
              have hq1' : (q == 0) = true := by simpa using hq0
              have hq2' : decide (q = 0) = true := by simpa using hq0
              simp only [hq2', Bool.true_and] at hl7 hl9
              clear hq0
              go_wp2_with fail
              refine wp_region_quiet_lit (by kernel_rfl) (lexB_parts (by as_aux_lemma => kernel_rfl) (by as_aux_lemma => kernel_rfl) (by as_aux_lemma => kernel_rfl) (by as_aux_lemma => kernel_rfl) (by as_aux_lemma => kernel_rfl) (by as_aux_lemma => kernel_rfl) (by as_aux_lemma => kernel_rfl) (by as_aux_lemma => kernel_rfl) (by as_aux_lemma => kernel_rfl) (by as_aux_lemma => kernel_rfl) (by as_aux_lemma => kernel_rfl)) ?_
              try simp only [List.append_eq, List.cons_append, List.nil_append]
              iterate 12 (go_big_quiet_step (fail))
              as_aux_lemma =>
                iterate 12 (go_big_quiet_step (fail))
                as_aux_lemma =>
                  iterate 12 (go_big_quiet_step (fail))
                  as_aux_lemma =>
                    iterate 12 (go_big_quiet_step (fail))
                    as_aux_lemma =>
                      iterate 12 (go_big_quiet_step (fail))
                      as_aux_lemma =>
                        iterate 12 (go_big_quiet_step (fail))
                        as_aux_lemma =>
                          iterate 12 (go_big_quiet_step (fail))
                          as_aux_lemma =>
                            iterate 12 (go_big_quiet_step (fail))
                            as_aux_lemma =>
                              repeat (go_big_quiet_step (fail))
                              refine wpQuiet_nil ?_
                              intro _ hw'
                              obtain ⟨nq, hw''⟩ := hw'
                              subst hw''
                              go_wp2_with fail
                              go_meet
                              exact ⟨rfl, rfl, rfl, rfl, Nat.le_refl _, fun _ _ => rfl⟩
            · have hq0' : ((q : Int) == 0) = false := by simp; omega
              have hq1' : (q == 0) = false := by simpa using hq0
              have hq2' : decide (q = 0) = false := by simpa using hq0
              simp only [hq2', Bool.false_and] at hl7 hl9
              clear hq0
              go_wp2_with fail
              refine wp_region_quiet_lit (by kernel_rfl) (lexB_parts (by as_aux_lemma => kernel_rfl) (by as_aux_lemma => kernel_rfl) (by as_aux_lemma => kernel_rfl) (by as_aux_lemma => kernel_rfl) (by as_aux_lemma => kernel_rfl) (by as_aux_lemma => kernel_rfl) (by as_aux_lemma => kernel_rfl) (by as_aux_lemma => kernel_rfl) (by as_aux_lemma => kernel_rfl) (by as_aux_lemma => kernel_rfl) (by as_aux_lemma => kernel_rfl)) ?_
              try simp only [List.append_eq, List.cons_append, List.nil_append]
              iterate 12 (go_big_quiet_step (fail))
              as_aux_lemma =>
                iterate 12 (go_big_quiet_step (fail))
                as_aux_lemma =>
                  iterate 12 (go_big_quiet_step (fail))
                  as_aux_lemma =>
                    iterate 12 (go_big_quiet_step (fail))
                    as_aux_lemma =>
                      iterate 12 (go_big_quiet_step (fail))
                      as_aux_lemma =>
                        iterate 12 (go_big_quiet_step (fail))
                        as_aux_lemma =>
                          iterate 12 (go_big_quiet_step (fail))
                          as_aux_lemma =>
                            iterate 12 (go_big_quiet_step (fail))
                            as_aux_lemma =>
                              repeat (go_big_quiet_step (fail))
                              refine wpQuiet_nil ?_
                              intro _ hw'
                              obtain ⟨nq, hw''⟩ := hw'
                              subst hw''
                              go_wp2_with fail
                              go_meet
                              exact ⟨rfl, rfl, rfl, rfl, Nat.le_refl _, fun _ _ => rfl⟩
          case rest =>
          obtain ⟨rfl, hbv⟩ := hcut
          have HBV := Lib.hid (HBU.out.trans (hbv.mono (Nat.le_trans hz hzu)))
          clear hbv
          go_wp2_with fail
          go_roundw
          case rel => exact ⟨q + 1, rfl, by omega, by rw [HUP.out]; have := HAT2.out; simp; omega, HBV.out⟩
          case measure => simp [intOf]; omega
        · have hqe : q = s.init.length := by omega
          subst hqe
          obtain ⟨Fa, Fc, Ia, Ic, d0, d1, d2, d3, d4, d5, d6, hF, hF1, hF2, hI, hI1, hI2⟩ := HAT.out.below hb hgb
          have SZ := Lib.hid (fun (u : World) (h : Row u u.heap.size 2 Fa s.fields.length (fieldRow s.fields)) => rsizeT_any s.kind s.elem s.n Fa s.fields.length Fc s.fields u h (by have := HGS.out.typ.len; omega) rfl hF1 hF2)
          rw [HZS.out] at SZ
          have HFR := Lib.hid (hF.more hb.size)
          have hz := hb.size
          clear hF hF1 hF2 hI hI1 hI2 hb
          go_wp2_with fail
          refine (SZ.out _ HFR.out).mono ?_
          rintro e' u ⟨rfl, hbu⟩
          have HBU := Lib.hid (HBq.out.trans (hbu.mono hz))
          clear hbu
          go_wp2_with fail
          go_roundw
          case rel =>
            refine ⟨j + 1, rfl, by omega, ?_, HBU.out⟩
            rw [uptoN_succ HX.out, HUP.out, HCNT.out]
            simp
          case measure => simp [intOf]; omega
    · have hje : j = gl.length := by omega
      have hall := uptoN_all gl
      rw [hje, hall, HCL.out]
      have hjl' : ¬ (gl.length : Int) < gl.length := by omega
      have HBE := Lib.hid (HB4.out.trans (hb.mono hz4))
      clear hb hall hjl hje
      go_wp2_with fail
      go_ret
      exact ⟨by simp, HBE.out⟩
end Go.Proofs.YtgeeicgdgncmpaaDoor
