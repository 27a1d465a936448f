/- The document's chapter 12: Calls, where nothing is called. -/
import Derived.Test.YtngobbbinacomaaDoorRK14
namespace Go.Proofs.YtngobbbinacomaaDoor
open Go.RowKit Go.Proofs.YtngobbbinacomaaDoor.c11 Go.Proofs.YtngobbbinacomaaDoor.c10
set_option linter.unusedVariables false
set_option linter.unusedSimpArgs false
attribute [local go_sem ↓] Go.wp_at_zero Go.wp_at_succ

theorem intInfoC : (Tryd.prog.info? 3).map (fun i => (i.zero, i.size, i.bytes)) = some (some (.int .i64 0), 1, 8) := by kernel_rfl
theorem intTyC : Tryd.prog.underlying 22 = some (.slice 3) := by kernel_rfl
set_option maxRecDepth 100000 in
theorem make_intsC (n : Nat) (hn : n ≤ 1000000) (w : World) :
    (Instr.makeSlice 22 (.int .i64 n) (.int .i64 n)).run Tryd.prog w = .ok (.slice (some ⟨w.heap.size, 0, none⟩) n n) (w.alloc (.cells (Array.replicate n (.int .i64 0)) 3)) := by
  obtain ⟨i0, hi, hz0, hz1, hz2⟩ := info_parts intInfoC
  have h := run_make (P := Tryd.prog) w 22 3 i0 _ intTyC hi hz0 .i64 .i64 n n (by omega) (by omega) (by rw [hz2]; omega) (by omega)
  rw [h, hz1]
  congr 3
  unfold madeCells
  apply Array.ext
  · simp
  · intro j h1 h2
    simp [Value.cells, Nat.mod_one]

theorem one_cell {w : World} {b : Nat} {v : Value} (h : w.cell? ⟨b, 0, none⟩ = some v) : ∀ (j : Nat) (u : Value), [v][j]? = some u → w.cell? ((⟨b, 0, none⟩ : Addr).add j) = some u := by
  intro j u hj
  have hj' : j < 1 := by have := (List.getElem?_eq_some_iff.1 hj).1; simpa using this
  obtain rfl : j = 0 := by omega
  rw [Addr.add_lit]
  simp at hj
  subst hj
  exact h
def ToRel (w1 : World) (t : TypeId) (n : Nat) (tv k : Value) (wr : World) : Prop := ∃ j : Nat, k = .int .i64 j ∧ j ≤ n ∧ wr.ownsRow w1.heap.size t 1 tv j (List.replicate j (.slice none 0 0)) ∧ Below w1.heap.size w1 wr

def DeepRel (w2 : World) (n : Nat) (k : Value) (wr : World) : Prop := ∃ j : Nat, k = .int .i64 j ∧ j ≤ n ∧ (∀ i, i < n → wr.cell? ⟨w2.heap.size, i, none⟩ = some (.int .i64 (if i < j then 1 else 0)) ∧ wr.frozen? ⟨w2.heap.size, i, none⟩ = false) ∧ Below w2.heap.size w2 wr ∧ w2.heap.size < wr.heap.size

set_option maxHeartbeats 8000000 in
set_option maxRecDepth 100000 in
/-- The document's look at who calls whom, where nobody does. -/
theorem rcalls_ok (SA : Option Addr) (SC : Nat) (l : List SymD) (Ca : Option Addr) (Cc : Nat) (consts : List Int) (Fa : Option Addr) (Fc : Nat) (funcs : List (List Int)) (Fv : Nat → Option Addr) (Fl : Nat → Nat) (w : World)
    (h : ImgAt w SA SC l Ca Cc consts Fa Fc funcs Fv Fl) (hf : 1 ≤ funcs.length ∧ funcs.length ≤ 4) (hfl : ∀ b ∈ funcs, b.length ≤ 120)
    (hF : ∀ (k : Nat) (b : List Int), funcs[k]? = some b → (opsL b).2 = 0 ∧ (opsL b).1.length ≤ 120 ∧ ∀ o ∈ (opsL b).1, o.2.2.1 ≠ 20) :
    Calls Tryd.prog 46 #[.agg #[.slice SA l.length SC, .slice Ca consts.length Cc, .slice Fa funcs.length Fc]] w fun e w' => (∃ v : Value, e = .returned (.tuple #[v, .int .i64 0])) ∧ Below w.heap.size w w' := by
  have H := Lib.hid h
  have HFl := Lib.hid hfl
  have HF := Lib.hid hF
  have hfI : (funcs.length : Int) ≤ Fc := by have := h.fc.1; omega
  obtain ⟨cb, co, hFa, hcbl, hcc⟩ := h.rf.2 (by omega)
  have HCC := Lib.hid hcc
  subst hFa
  obtain ⟨i0, hi, hz0, hz1, hz2⟩ := info_parts intsInfo
  have hB1 := Lib.hid (show Below w.heap.size w (w.alloc (.cells #[.slice SA l.length SC, .slice Ca consts.length Cc, .slice (some ⟨cb, co, none⟩) funcs.length Fc] 29)) from (Below.refl _ w).alloc (Nat.le_refl _) _)
  clear h hfl hF hcc
  go_enter Tryd.func46, Tryd.ntmps46
  go_wp2_with fail
  obtain ⟨w1, hw1⟩ : ∃ x : World, x = (w.alloc (.cells #[.slice SA l.length SC, .slice Ca consts.length Cc, .slice (some ⟨cb, co, none⟩) funcs.length Fc] 29)) := ⟨_, rfl⟩
  rw [← hw1] at hB1
  have k2 : w1.cell? ⟨w.heap.size, 2, none⟩ = some (.slice (some ⟨cb, co, none⟩) funcs.length Fc) := by rw [hw1]; go_simp
  have hsz : w.heap.size < w1.heap.size := by rw [hw1]; simp
  have HI := Lib.hid (H.out.below hB1.out)
  rw [← hw1]
  clear hw1
  go_loopw [5, 6] (fun tv k wr => ToRel w1 22 funcs.length tv k wr) (fun _ k _ => funcs.length - (intOf k).toNat)
  case atStart => exact ⟨0, rfl, Nat.zero_le _, World.ownsRow_nil _ _ _ _, Below.refl _ _⟩
  case round =>
    obtain ⟨j, rfl, hj, ho, hb⟩ := hrel
    have HB := Lib.hid hb
    have HO := Lib.hid ho
    obtain ⟨tA, tc, htv, htc1, htc2⟩ := own_slice ho
    subst htv
    unfold maxLen at htc2
    have q2 := (dcell hb hsz 2).trans k2
    have HI2 := Lib.hid (HI.out.below hb)
    by_cases hjl : j < funcs.length
    · have hjl' : (j : Int) < funcs.length := by omega
      obtain ⟨b, hbx⟩ : ∃ b, funcs[j]? = some b := ⟨_, List.getElem?_eq_getElem hjl⟩
      have fk : wr.cell? ⟨cb, co + j, none⟩ = some (.slice (Fv j) b.length (Fl j)) := (dcell hb (Nat.lt_trans hcbl hsz) _).trans ((dcell hB1.out hcbl _).trans (HCC.out j _ (by rw [List.getElem?_map, List.getElem?_range hjl]; simp [List.getD_eq_getElem?_getD, hbx])))
      obtain ⟨hcr, hcl, hcm, hcb⟩ := HI2.out.code j b hbx
      have hb120 := HFl.out b (List.mem_of_getElem? hbx)
      obtain ⟨hR, hL120, hno⟩ := HF.out j b hbx
      have HNO := Lib.hid hno
      have AL := Lib.hid (rall_any (Fv j) b.length (Fl j) (fun j => b.getD j 0) wr (Row.came hcr hcl hcm) (by omega) (fun i hi => by rw [List.getD_eq_getElem?_getD, List.getElem?_eq_getElem hi]; exact hcb _ (List.getElem_mem hi)))
      have hopsR : opsL b = runL (fun j => b.getD j 0) b.length (b.length + 1) 0 [] := rfl
      rw [← hopsR, hR] at AL
      clear hopsR hb ho hcr hcl hcm hcb hR hno hbx
      generalize (opsL b).1 = L at *
      go_wp2_with fail
      refine AL.out.mono ?_
      rintro e w2 ⟨⟨B, nB, rfl, hrow⟩, hb2⟩
      have HROW := Lib.hid (show Row w2 w2.heap.size 5 B L.length (rowCells L) from ⟨rowCells_length L, fun h0 => by
        obtain ⟨bb, hB, _, hlt, hcl⟩ := hrow h0
        exact ⟨bb, 0, hB, hlt, fun j u hu => by rw [Nat.zero_add]; exact hcl j u hu⟩⟩)
      have HB2 := Lib.hid (HB.out.trans (hb2.mono HB.out.size))
      have HO2 := Lib.hid (row_keep HO.out hb2)
      clear hb2 hrow AL fk
      go_wp2_with fail
      go_loopw [9, 10] (fun c i wr => c = .slice none 0 0 ∧ LoopRel w2 L.length i wr) (fun _ i _ => L.length - (intOf i).toNat)
      case atStart => exact ⟨rfl, 0, rfl, Nat.zero_le _, Below.refl _ _⟩
      case round =>
        obtain ⟨hc9, x, rfl, hx, hbx⟩ := hrel
        subst hc9
        have HBX := Lib.hid hbx
        by_cases hxl : x < L.length
        · have hxl' : (x : Int) < L.length := by omega
          obtain ⟨o, ho⟩ : ∃ o, L[x]? = some o := ⟨_, List.getElem?_eq_getElem hxl⟩
          obtain ⟨lb, lo, hB, hlb, hlc⟩ := HROW.out.2 (by omega)
          have e2 := (dcell hbx hlb _).trans (hlc (x * 5 + 2) _ ((flat_get opCells 5 (fun _ => rfl) L x 2 o ho (by omega)).trans rfl))
          rw [← Nat.add_assoc] at e2
          have h20 := HNO.out o (List.mem_of_getElem? ho)
          clear hbx hlc ho
          obtain ⟨o1, o2, s, a, n⟩ := o
          simp only at e2 h20
          have n20 : (s == 20) = false := by simp; omega
          subst hB
          go_wp2
          go_roundw
          case rel => exact ⟨rfl, x + 1, rfl, by omega, HBX.out⟩
          case measure => simp [intOf]; omega
        · have hxs : x = L.length := by omega
          subst hxs
          have HB3 := Lib.hid (HB2.out.trans (hbx.mono HB2.out.size))
          have HO3 := Lib.hid (row_keep HO2.out hbx)
          clear hbx
          go_wp2_with (at_builtin; refine wpList_append_own _ rfl _ _ 120 rfl w1.heap.size 22 i0 _ 1 24 intssTy hi hz0 hz1 hz2 rfl (by decide) _ j (List.replicate j (.slice none 0 0)) rfl (HO3.out.alloc _) ⟨_, 0, none⟩ 1 1 [.slice none 0 0] rfl rfl (one_cell (by go_simp)) ?p3 ?p4 ?p5 ?p6 ?_)
          case p3 => intro u hu; simp at hu; subst hu; rfl
          case p4 => unfold maxLen; omega
          case p5 => omega
          case p6 => have := HB3.out.size; simp; omega
          intro v9 w9 hown hgrow hat
          have HO9 := Lib.hid hown
          have HB9 := Lib.hid (show Below w1.heap.size w1 w9 from (HB3.out.alloc HB3.out.size _).grown hgrow (by have := HB3.out.size; simp; omega) (fun k hk => (HO3.out.lt k hk).1))
          clear hown hgrow hat
          go_wp2
          go_roundw
          case rel => exact ⟨j + 1, rfl, by omega, by rw [List.replicate_succ']; exact HO9.out, HB9.out⟩
          case measure => simp [intOf]; omega
    · have hjs : j = funcs.length := by omega
      subst hjs
      obtain ⟨w2, hw2⟩ : ∃ x : World, x = wr := ⟨_, rfl⟩
      subst hw2
      have hs2 : w.heap.size < w2.heap.size := Nat.lt_of_lt_of_le hsz HB.out.size
      have hs12 := HB.out.size
      have HT := Lib.hid (Row.of_own HO.out)
      have HB2 := Lib.hid (hB1.out.trans (HB.out.mono (Nat.le_of_lt hsz)))
      clear hb ho k2
      have mk := make_intsC funcs.length (by omega)
      obtain ⟨tb, tof, hTA, htb, htc⟩ := HT.out.2 (by omega)
      have HTC := Lib.hid htc
      subst hTA
      have hnn : (funcs.length : Int) ≤ tc := by omega
      clear htc
      go_wp2_with fail
      obtain ⟨w3, hw3⟩ : ∃ x : World, x = (w2.alloc (.cells (Array.replicate funcs.length (.int .i64 0)) 3)) := ⟨_, rfl⟩
      have hdr := Lib.hid (show DeepRel w2 funcs.length (.int .i64 0) w3 from ⟨0, rfl, Nat.zero_le _, fun i hi => by rw [hw3]; constructor <;> go_simp <;> simp [hi], by rw [hw3]; exact (Below.refl _ _).alloc (Nat.le_refl _) _, by rw [hw3]; simp⟩)
      rw [← hw3]
      clear hw3
      go_loopw [12] (fun k wr => DeepRel w2 funcs.length k wr) (fun k _ => funcs.length - (intOf k).toNat)
      case atStart => exact hdr.out
      case round =>
        obtain ⟨j, rfl, hj, hcs, hb, hlt⟩ := hrel
        by_cases hjl : j < funcs.length
        · have hjl' : (j : Int) < funcs.length := by omega
          obtain ⟨c1, c2⟩ := hcs j hjl
          have HCS := Lib.hid hcs
          have HBJ := Lib.hid hb
          clear hcs hb
          go_wp2
          go_roundw
          case rel =>
            refine ⟨j + 1, rfl, by omega, fun i hi => ?_, ?_, by simpa using hlt⟩
            · by_cases hij : j = i
              · subst hij
                exact ⟨by rw [if_pos (by omega)]; exact cell_set_same c1, froz_set.trans c2⟩
              · obtain ⟨d1, d2⟩ := HCS.out i hi
                refine ⟨(cell_set_ne (.inr hij)).trans (d1.trans ?_), froz_set.trans d2⟩
                by_cases h1 : i < j
                · rw [if_pos h1, if_pos (by omega)]
                · rw [if_neg h1, if_neg (by omega)]
            · exact HBJ.out.setCell (Nat.le_refl _) _
          case measure => simp [intOf]; omega
        · have hjs : j = funcs.length := by omega
          subst hjs
          have HCS := Lib.hid hcs
          have HBJ := Lib.hid hb
          clear hcs
          obtain ⟨w4, hw4⟩ : ∃ x : World, x = wr := ⟨_, rfl⟩
          subst hw4
          have q2 := (dcell hb hs2 2).trans q2
          clear hb hdr
          have HD1 := Lib.hid (show ∀ i, i < funcs.length → w4.cell? ⟨w2.heap.size, i, none⟩ = some (.int .i64 1) from fun i hi => (HCS.out i hi).1.trans (by rw [if_pos hi]))
          have HT1 := Lib.hid (show ∀ i, i < funcs.length → w4.cell? ⟨tb, tof + i, none⟩ = some (.slice none 0 0) from fun i hi => (dcell HBJ.out htb _).trans (by have := HTC.out i (.slice none 0 0) (by simp [hi]); simpa using this))
          have hlt2 : tb < w4.heap.size := by omega
          clear HCS HTC
          go_wp2_with fail
          go_loopw [13] (fun r wr => LoopRel w4 (funcs.length + 1) r wr) (fun r _ => funcs.length + 1 - (intOf r).toNat)
          case atStart => exact ⟨0, rfl, Nat.zero_le _, Below.refl _ _⟩
          case round =>
            obtain ⟨r, rfl, hr, hbr⟩ := hrel
            have HBR := Lib.hid hbr
            have hr4 := hbr.size
            clear hbr
            by_cases hrl : r < funcs.length + 1
            · have hrl' : (r : Int) ≤ funcs.length := by omega
              go_wp2_with fail
              obtain ⟨w5, hw5⟩ : ∃ x : World, x = wr := ⟨_, rfl⟩
              subst hw5
              go_loopw [14] (fun k wr => LoopRel w5 funcs.length k wr) (fun k _ => funcs.length - (intOf k).toNat)
              case atStart => exact ⟨0, rfl, Nat.zero_le _, Below.refl _ _⟩
              case round =>
                obtain ⟨k, rfl, hk, hbk⟩ := hrel
                by_cases hkl : k < funcs.length
                · have hkl' : (k : Int) < funcs.length := by omega
                  have t1 := (dcell hbk (Nat.lt_of_lt_of_le hlt2 hr4) _).trans ((dcell HBR.out hlt2 _).trans (HT1.out k hkl))
                  have HBK := Lib.hid hbk
                  clear hbk
                  go_wp2_with fail
                  obtain ⟨w6, hw6⟩ : ∃ x : World, x = wr := ⟨_, rfl⟩
                  subst hw6
                  go_loopw [15] (fun i wr => i = .int .i64 0 ∧ wr = w6) (fun _ _ => 0)
                  case atStart => exact ⟨rfl, rfl⟩
                  case round =>
                    obtain ⟨rfl, rfl⟩ := hrel
                    go_wp2
                    go_roundw
                    case rel => exact ⟨k + 1, rfl, by omega, HBK.out⟩
                    case measure => simp [intOf]; omega
                · have hke : k = funcs.length := by omega
                  subst hke
                  have HBK := Lib.hid hbk
                  clear hbk
                  go_wp2
                  go_roundw
                  case rel => exact ⟨r + 1, rfl, by omega, HBR.out.trans (HBK.out.mono hr4)⟩
                  case measure => simp [intOf]; omega
            · have hre : r = funcs.length + 1 := by omega
              subst hre
              have hre' : ¬ ((funcs.length + 1 : Nat) : Int) ≤ funcs.length := by omega
              go_wp2_with fail
              obtain ⟨w5, hw5⟩ : ∃ x : World, x = wr := ⟨_, rfl⟩
              subst hw5
              go_loopw [16] (fun k wr => LoopRel w5 funcs.length k wr) (fun k _ => funcs.length - (intOf k).toNat)
              case atStart => exact ⟨0, rfl, Nat.zero_le _, Below.refl _ _⟩
              case round =>
                obtain ⟨k, rfl, hk, hbk⟩ := hrel
                by_cases hkl : k < funcs.length
                · have hkl' : (k : Int) < funcs.length := by omega
                  have d1 := (dcell hbk (Nat.lt_of_lt_of_le hlt hr4) _).trans ((dcell HBR.out hlt _).trans (HD1.out k hkl))
                  have q2' := (dcell hbk (Nat.lt_of_lt_of_le (by omega) hr4) 2).trans ((dcell HBR.out (by omega) 2).trans q2)
                  have hn1 : decide ((funcs.length : Int) < 1) = false := decide_eq_false (by omega)
                  have HBK := Lib.hid hbk
                  clear hbk
                  go_wp2
                  go_roundw
                  case rel => exact ⟨k + 1, rfl, by omega, HBK.out⟩
                  case measure => simp [intOf]; omega
                · have hke : k = funcs.length := by omega
                  subst hke
                  have HBK := Lib.hid hbk
                  clear hbk
                  go_wp2
                  go_ret2
                  exact ⟨⟨_, rfl⟩, HB2.out.trans (((HBJ.out.trans (HBR.out.mono (by have := HBJ.out.size; omega))).trans (HBK.out.mono (by have := HBJ.out.size; omega))).mono (by omega))⟩
end Go.Proofs.YtngobbbinacomaaDoor
