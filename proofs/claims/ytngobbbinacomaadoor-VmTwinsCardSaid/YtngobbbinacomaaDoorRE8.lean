/- The document's chapters 8, 9: variables and programs are checked, where they are fine. -/
import Derived.Test.YtngobbbinacomaaDoorRD8
import Derived.Laws.Strings
namespace Go.Proofs.YtngobbbinacomaaDoor
open Go.RowKit Go.Proofs.YtngobbbinacomaaDoor.c11
set_option linter.unusedVariables false
set_option linter.unusedSimpArgs false
attribute [local go_sem ↓] Go.wp_at_zero Go.wp_at_succ

theorem names_ne {a b : ByteArray} (h : a ≠ b) : (a.toList == b.toList) = false := by
  rw [ByteArray.toList_eq, ByteArray.toList_eq, beq_eq_false_iff_ne]
  intro e
  apply h
  cases a with
  | mk x => cases b with
    | mk y =>
      congr 1
      exact Array.toList_inj.1 e

/-- A variable's seven cells, without fields. -/
structure Sym7 (w : World) (b o : Nat) (s : SymD) (Fa : Option Addr) (Fc : Nat) (Ia : Option Addr) (Ic : Nat) : Prop where
  c0 : w.cell? ⟨b, o, none⟩ = some (.string s.name)
  c1 : w.cell? ⟨b, o + 1, none⟩ = some (.int .i64 s.kind)
  c2 : w.cell? ⟨b, o + 2, none⟩ = some (.int .i64 s.elem)
  c3 : w.cell? ⟨b, o + 3, none⟩ = some (.int .i64 s.n)
  c4 : w.cell? ⟨b, o + 4, none⟩ = some (.slice Fa 0 Fc)
  c5 : w.cell? ⟨b, o + 5, none⟩ = some (.bool s.retain)
  c6 : w.cell? ⟨b, o + 6, none⟩ = some (.slice Ia s.init.length Ic)
theorem Sym7.below {w w' : World} {B b o : Nat} {s : SymD} {Fa Ia : Option Addr} {Fc Ic : Nat} (h : Sym7 w b o s Fa Fc Ia Ic) (hb : Below B w w') (hlt : b < B) : Sym7 w' b o s Fa Fc Ia Ic :=
  ⟨(dcell hb hlt _).trans h.c0, (dcell hb hlt _).trans h.c1, (dcell hb hlt _).trans h.c2, (dcell hb hlt _).trans h.c3, (dcell hb hlt _).trans h.c4, (dcell hb hlt _).trans h.c5, (dcell hb hlt _).trans h.c6⟩

def ScanRel (w0 : World) (top : Nat) (i : Value) (wr : World) : Prop := ∃ j : Nat, i = .int .i64 j ∧ j ≤ top ∧ Below w0.heap.size w0 wr

def CheckRel (w : World) (l : List SymD) (n kept i : Value) (wr : World) : Prop :=
  ∃ k : Nat, i = .int .i64 k ∧ k ≤ l.length ∧ n = .int .i64 (sizesN (l.take k)) ∧ kept = .int .i64 (keptN (l.take k)) ∧ Below w.heap.size w wr

set_option maxHeartbeats 8000000 in
set_option maxRecDepth 100000 in
/-- The document's check of variables, where it is fine. -/
theorem rcheck8_ok (A : Option Addr) (n c : Nat) (l : List SymD) (w : World) (hs : Syms w w.heap.size A n l) (hc : n ≤ c) (hcm : c ≤ 9223372036854775807) (hg : GoodSyms l) :
    Calls Tryd.prog 60 #[.slice A n c] w fun e w' => e = .returned (.int .i64 0) ∧ Below w.heap.size w w' := by
  have hnl := hs.len
  subst hnl
  have HS := Lib.hid hs
  have HG := Lib.hid hg
  have hl' : (l.length : Int) ≤ 12 := by have := hg.few; omega
  clear hs hg
  have h12 : decide ((12 : Int) < l.length) = false := decide_eq_false (by omega)
  go_enter Tryd.func60, Tryd.ntmps60
  go_wp2_with fail
  go_loopw [3, 4, 5] (fun n kept i wr => CheckRel w l n kept i wr) (fun _ _ i _ => l.length - (intOf i).toNat)
  case atStart => exact ⟨0, rfl, Nat.zero_le _, rfl, rfl, Below.refl _ _⟩
  case round =>
    obtain ⟨k, rfl, hk, rfl, rfl, hb⟩ := hrel
    have HB := Lib.hid hb
    have hzw := hb.size
    by_cases hlt : k < l.length
    · have hlt' : (k : Int) < l.length := by omega
      obtain ⟨s, hsk⟩ : ∃ s, l[k]? = some s := ⟨_, List.getElem?_eq_getElem hlt⟩
      have hmem := List.mem_of_getElem? hsk
      obtain ⟨b, off, hA, hbl, hat⟩ := HS.out.at_ (by omega)
      have HAT := Lib.hid hat
      have hss := hat k s hsk
      have hf0 := HG.out.flds s hmem
      obtain ⟨hinit, hi64⟩ := HG.out.init s hmem
      have NM := Lib.hid (fun u => rname_ok s.name (HG.out.name s hmem) u)
      have hcells := HG.out.cells (k + 1) (by omega)
      have hsum : sizesN (l.take (k + 1)) = sizesN (l.take k) + s.init.length := by rw [List.take_add_one, hsk]; exact sizesN_add _ _
      have hkep : keptN (l.take (k + 1)) = keptN (l.take k) + (if s.retain then s.init.length else 0) := by rw [List.take_add_one, hsk]; exact keptN_add _ _
      have hkle := keptN_le (l.take k)
      have TY := Lib.hid (fun A c u => rtype_ok s.kind s.elem s.n A c u (HG.out.type s hmem))
      have SZ := Lib.hid (fun A c (hc : 0 ≤ c) (hcm : c ≤ 9223372036854775807) u => rsizeT_any s.kind s.elem s.n A 0 c [] u ⟨rfl, fun h => absurd h (by decide)⟩ (by decide) rfl hc hcm)
      have hsz : sizeOf8 s.kind s.n [] = (s.init.length : Int) := by rw [hinit, SymD.size, hf0]
      rw [hsz] at SZ
      have HSK := Lib.hid hsk
      have HMEM := Lib.hid hmem
      have HF0 := Lib.hid hf0
      have HINIT := Lib.hid hinit
      subst hA
      have HSUM := Lib.hid hsum
      have HKEP := Lib.hid hkep
      have hnl : (sizesN (l.take k) : Int) + s.init.length ≤ 64 := by omega
      have hkl : (keptN (l.take k) : Int) ≤ 64 := by omega
      have hil : (s.init.length : Int) ≤ 64 := by omega
      clear hat hf0 hinit hsk hmem hsum hkep hcells hsz hkle
      generalize sizesN (l.take k) = ns at *
      generalize keptN (l.take k) = nk at *
      have OF := Lib.hid (fun u Fa Fc Ia Ic h1 h2 h3 h4 h5 h6 => rof_any s Fa Fc Ia Ic u h1 h2 h3 h4 h5 h6 (HG.out.ok s HMEM.out) (by rw [← HINIT.out]; exact hil))
      obtain ⟨Fa, Fc, Ia, Ic, k0, k1, k2, k3, k4, k5, k6, hF, hFc, hFm, hI, hIc, hIm⟩ := hss.below hb hbl
      have HSS := Lib.hid hss
      have hlen0 : s.fields.length = 0 := by rw [HF0.out]; rfl
      rw [hlen0] at k4
      have HHF := Lib.hid hF
      have HHI := Lib.hid hI
      have hbw : b < wr.heap.size := by omega
      clear hss hb hF hI hlen0
      obtain ⟨wo, hwo⟩ : ∃ x : World, x = wr := ⟨_, rfl⟩
      subst hwo
      go_upto_block 2 with (go_at_call 80; refine (NM.out _).mono ?_; rintro e _ ⟨rfl, rfl⟩)
      go_cut [6] (fun v wx => Below wo.heap.size wo wx)
      case first =>
        go_wp2_with fail
        go_loopw [6] (fun j wx => ScanRel wo k j wx) (fun j _ => k - (intOf j).toNat)
        case atStart => exact ⟨0, rfl, Nat.zero_le _, Below.refl _ _⟩
        case round =>
          obtain ⟨j, rfl, hj, hbj⟩ := hrel
          have HBJ := Lib.hid hbj
          by_cases hjk : j < k
          · have hjk' : (j : Int) < k := by omega
            obtain ⟨sj, hsj⟩ : ∃ sj, l[j]? = some sj := ⟨_, List.getElem?_eq_getElem (by omega)⟩
            have hne : sj.name ≠ s.name := HG.out.diff k j s sj HSK.out hsj hjk
            have j0 : wr.cell? ⟨b, off + j * 7, none⟩ = some (.string sj.name) := by
              obtain ⟨_, _, _, _, j0, _⟩ := ((HAT.out j sj hsj).below HB.out hbl).below (hbj.mono hzw) hbl
              exact j0
            have i0 := (dcell hbj hbw (off + k * 7)).trans k0
            have hne' := names_ne hne
            clear hne
            clear hbj hsj
            go_wp2_with fail
            go_region
            all_goals (try go_wp2_with fail)
            all_goals go_roundw
            case rel => exact ⟨j + 1, rfl, by omega, HBJ.out.drew⟩
            case measure => simp [intOf]; omega
          · have hjk2 : j = k := by omega
            subst hjk2
            clear hbj
            go_wp2
            go_meet
            exact HBJ.out
      case rest =>
      generalize hwc : wc = w2 at *
      have HB2 := Lib.hid hcut
      have hz2 := hcut.size
      have S2 := Lib.hid (Sym7.below (Sym7.mk k0 k1 k2 k3 k4 k5 k6) hcut hbw)
      have hb2w : b < w2.heap.size := Nat.lt_of_lt_of_le hbw hz2
      clear hcut hwc k0 k1 k2 k3 k4 k5 k6
      obtain ⟨k0, k1, k2, k3, k4, k5, k6⟩ := S2.out
      have hFc0 : 0 ≤ Fc := Nat.zero_le _
      go_upto_region 15 with (go_at_call 81; refine (TY.out _ _ _).mono ?_; rintro e w3 ⟨rfl, hb3⟩; have S3 := Lib.hid (S2.out.below hb3 hb2w); have hb3w := Nat.lt_of_lt_of_le hb2w hb3.size; have HB3 := Lib.hid hb3; clear hb3 k0 k1 k2 k3 k4 k5 k6)
      obtain ⟨k0, k1, k2, k3, k4, k5, k6⟩ := S3.out
      go_upto_region 18 with (go_at_call 82; refine (SZ.out _ _ hFc0 hFm _).mono ?_; rintro e w4 ⟨rfl, hb4⟩; have S4 := Lib.hid (S3.out.below hb4 hb3w); have hb4w := Nat.lt_of_lt_of_le hb3w hb4.size; have HB4 := Lib.hid hb4; clear hb4 k0 k1 k2 k3 k4 k5 k6)
      obtain ⟨k0, k1, k2, k3, k4, k5, k6⟩ := S4.out
      have hgt : decide ((64 : Int) < (ns : Int) + s.init.length) = false := decide_eq_false (by omega)
      have HB24 := Lib.hid (show Below wo.heap.size wo w4 from HB2.out.trans (Below.mono (HB3.out.trans (HB4.out.mono HB3.out.size)) hz2))
      have hz24 := HB24.out.size
      have O4 := Lib.hid (OF.out w4 Fa Fc Ia Ic ((HHF.out.below (HB24.out.mono hzw)).more (by omega)) (by rw [HF0.out]; exact Nat.zero_le _) hFm ((HHI.out.below (HB24.out.mono hzw)).more (by omega)) hIc hIm)
      have hf0 : s.fields.length = 0 := by rw [HF0.out]; rfl
      rw [hf0] at O4
      clear hf0
      go_upto_region 24 with (go_at_call 41; refine (O4.out).mono ?_; rintro e w5 ⟨⟨R5, c5, rfl, hc51, hc52, hr5⟩, hb5⟩; have S5 := Lib.hid (S4.out.below hb5 hb4w); have hb5w := Nat.lt_of_lt_of_le hb4w hb5.size; have HB5 := Lib.hid hb5; have HR5 := Lib.hid hr5; clear hb5 hr5 k0 k1 k2 k3 k4 k5 k6)
      obtain ⟨k0, k1, k2, k3, k4, k5, k6⟩ := S5.out
      have hcnt : s.count = s.init.length := by
        have h := HINIT.out
        unfold SymD.count
        omega
      have HCNT := Lib.hid hcnt
      clear hcnt
      go_upto_block 4 with fail
      go_cut [] (fun wx => Below w5.heap.size w5 wx)
      case first =>
        clear k0 k1 k2 k3 k4 k5 k6
        go_wp2_with fail
        go_loopw [10] (fun j wx => ScanRel w5 s.init.length j wx) (fun j _ => s.init.length - (intOf j).toNat)
        case atStart => exact ⟨0, rfl, Nat.zero_le _, Below.refl _ _⟩
        case round =>
          obtain ⟨j, rfl, hj, hbj⟩ := hrel
          have HBJ := Lib.hid hbj
          have hcnt := HCNT.out
          by_cases hjk : j < s.init.length
          · have hjk' : (j : Int) < s.init.length := by omega
            obtain ⟨x, hx⟩ : ∃ x, s.init[j]? = some x := ⟨_, List.getElem?_eq_getElem hjk⟩
            have hwr := HG.out.wrap s HMEM.out j x hx
            obtain ⟨cb, coff, hR, hcb, hcc⟩ := HR5.out.2 (by omega)
            have hsc : s.cells[j]? = some (s.cell j) := by
              unfold SymD.cells
              rw [List.getElem?_map, List.getElem?_range (by omega)]
              rfl
            have hxi : (s.cell j).init = x := by
              simp [SymD.cell, hx]
            have e1 : wr.cell? ⟨cb, coff + j * 6 + 1, none⟩ = some (.int .i64 (kindOf s.kind s.elem s.fields j)) := by
              have h := hcc (j * 6 + 1) _ ((flat_get cellCells 6 cellCells_length s.cells j 1 _ hsc (by omega)).trans rfl)
              rw [← Nat.add_assoc] at h
              exact (dcell hbj hcb _).trans h
            have e3 : wr.cell? ⟨cb, coff + j * 6 + 3, none⟩ = some (.int .i64 x) := by
              have h := hcc (j * 6 + 3) _ ((flat_get cellCells 6 cellCells_length s.cells j 3 _ hsc (by omega)).trans rfl)
              rw [← Nat.add_assoc] at h
              exact (dcell hbj hcb _).trans (h.trans (by show some (Value.int .i64 (s.cell j).init) = _; rw [hxi]))
            subst hR
            have WR := Lib.hid (fun u => rwrap_any (kindOf s.kind s.elem s.fields j) x u)
            rw [hwr] at WR
            have hcj : (j : Int) < s.count := by omega
            have hsc5 : (s.count : Int) ≤ c5 := by omega
            clear hbj hcc hsc hxi hx hwr hcnt
            generalize kindOf s.kind s.elem s.fields j = kk at *
            go_wp2_with fail
            go_region_with (go_at_call 26; refine (WR.out _).mono ?_; rintro e _ ⟨rfl, rfl⟩)
            all_goals (go_wp2_with fail; go_roundw; (case rel => (refine ⟨j + 1, rfl, by omega, ?_⟩; repeat (first | exact HBJ.out | refine Below.drew ?_ | refine below_dN _ ?_))); (case measure => (simp [intOf]; omega)))
          · have hjk2 : j = s.init.length := by omega
            subst hjk2
            clear hbj hcnt
            go_wp2
            go_meet
            exact HBJ.out
      case rest =>
      generalize hwc : wc = w6 at *
      have S6 := Lib.hid (S5.out.below hcut hb5w)
      have HB6 := Lib.hid (show Below w.heap.size w w6 from HB.out.trans (Below.mono (HB24.out.trans (Below.mono (HB5.out.trans (hcut.mono HB5.out.size)) hz24)) hzw))
      clear hcut hwc k0 k1 k2 k3 k4 k5 k6
      obtain ⟨k0, k1, k2, k3, k4, k5, k6⟩ := S6.out
      by_cases hret : s.retain = true
      · have HRT := Lib.hid hret
        go_wp2
        go_roundw
        case rel => exact ⟨k + 1, rfl, by omega, by rw [HSUM.out]; congr 1, by rw [HKEP.out, if_pos HRT.out]; congr 1, HB6.out⟩
        case measure => simp [intOf]; omega
      · have HRT := Lib.hid hret
        have hret' : s.retain = false := by simpa using hret
        clear hret
        go_wp2
        go_roundw
        case rel => exact ⟨k + 1, rfl, by omega, by rw [HSUM.out]; congr 1, by rw [HKEP.out, if_neg HRT.out]; congr 1, HB6.out⟩
        case measure => simp [intOf]; omega
    · have hkl : k = l.length := by omega
      subst hkl
      have hkept := HG.out.kept
      rw [List.take_length]
      have hk24 : decide ((24 : Int) < (keptN l : Int)) = false := decide_eq_false (by omega)
      clear hb
      go_wp2
      go_ret
      exact ⟨rfl, HB.out⟩
end Go.Proofs.YtngobbbinacomaaDoor
