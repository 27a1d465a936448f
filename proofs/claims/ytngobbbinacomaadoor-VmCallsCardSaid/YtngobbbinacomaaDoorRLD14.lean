/- The document's chapter 12: Calls, where who calls stands above whom it calls: ranks. -/
import Derived.Test.YtngobbbinacomaaDoorRL14
import Derived.Test.YtngobbbinacomaaDoorRO14
namespace Go.Proofs.YtngobbbinacomaaDoor
open Go.RowKit Go.Proofs.YtngobbbinacomaaDoor.c11 Go.Proofs.YtngobbbinacomaaDoor.c10
set_option linter.unusedVariables false
set_option linter.unusedSimpArgs false
attribute [local go_sem ↓] Go.wp_at_zero Go.wp_at_succ

/-- Whom instructions call. -/
def callsL (L : List (Int × Int × Int × Int × Int)) : List Int := (L.filter fun o => decide (o.2.2.1 = 20)).map fun o => o.2.2.2.1
theorem callsL_add {L : List (Int × Int × Int × Int × Int)} {x : Nat} {o : Int × Int × Int × Int × Int} (h : L[x]? = some o) : callsL (L.take (x + 1)) = callsL (L.take x) ++ if o.2.2.1 = 20 then [o.2.2.2.1] else [] := by
  rw [List.take_add_one, h]
  by_cases e : o.2.2.1 = 20 <;> simp [callsL, List.filter_append, e]
theorem callsL_len (L : List (Int × Int × Int × Int × Int)) : (callsL L).length ≤ L.length := by
  simp only [callsL, List.length_map]; exact List.length_filter_le _ _
theorem own_ne {w : World} {b1 b2 : Nat} {e1 e2 : TypeId} {s1 s2 n1 n2 : Nat} {v1 v2 : Value} {x1 x2 : List Value} (h1 : w.ownsRow b1 e1 s1 v1 n1 x1) (h2 : w.ownsRow b2 e2 s2 v2 n2 x2) (he : e1 ≠ e2) : v1.ownBlock = none ∨ v1.ownBlock ≠ v2.ownBlock := by
  rcases h1.2 with ⟨rfl, _⟩ | ⟨g, cap, cur, rfl, _, hh, _⟩
  · exact .inl rfl
  · right
    rcases h2.2 with ⟨rfl, _⟩ | ⟨g2, cap2, cur2, rfl, _, hh2, _⟩
    · simp [Value.ownBlock]
    · simp only [Value.ownBlock, ne_eq, Option.some.injEq]
      intro e
      subst e
      rw [hh] at hh2
      simp at hh2
      exact he hh2.2
theorem own_one {w : World} {b : Nat} {e : TypeId} {s n : Nat} {v : Value} {x : List Value} (h : w.ownsRow b e s v n x) : v.oneCell' = true := by
  rcases h.2 with ⟨rfl, _⟩ | ⟨g, cap, cur, rfl, _⟩ <;> rfl

theorem own_baseD {w : World} {base base' : Nat} {e : TypeId} {size n : Nat} {v : Value} {xs : List Value} (h : w.ownsRow base e size v n xs) (hb : base' ≤ base) : w.ownsRow base' e size v n xs :=
  ⟨h.1, h.2.elim .inl fun ⟨g, cap, cur, h1, h2, h3⟩ => .inr ⟨g, cap, cur, h1, Nat.le_trans hb h2, h3⟩⟩
/-- The rows of whom each calls. -/
structure ToInv (B n : Nat) (cs : Nat → List Int) (tv : Value) (j : Nat) (vs : List Value) (w : World) : Prop where
  len : vs.length = j
  row : w.ownsRow B 22 1 tv j vs
  each : ∀ i v, vs[i]? = some v → w.ownsRow B 3 1 v (cs i).length ((cs i).map (Value.int .i64))
def ToRelD (w1 : World) (n : Nat) (cs : Nat → List Int) (tv k : Value) (wr : World) : Prop := ∃ (j : Nat) (vs : List Value), k = .int .i64 j ∧ j ≤ n ∧ ToInv w1.heap.size n cs tv j vs wr ∧ Below w1.heap.size w1 wr
def CRel (w2 : World) (B : Nat) (L : List (Int × Int × Int × Int × Int)) (c i : Value) (wr : World) : Prop := ∃ x : Nat, i = .int .i64 x ∧ x ≤ L.length ∧ wr.ownsRow B 3 1 c (callsL (L.take x)).length ((callsL (L.take x)).map (Value.int .i64)) ∧ Below w2.heap.size w2 wr

/-- How deep each is, so far. -/
def DInv (db n : Nat) (D : Nat → Int) (w : World) : Prop := ∀ i, i < n → ∃ d : Int, w.cell? ⟨db, i, none⟩ = some (.int .i64 d) ∧ w.frozen? ⟨db, i, none⟩ = false ∧ 1 ≤ d ∧ d ≤ D i
def DRel (w4 : World) (db n : Nat) (D : Nat → Int) (top : Nat) (k : Value) (wr : World) : Prop := ∃ j : Nat, k = .int .i64 j ∧ j ≤ top ∧ DInv db n D wr ∧ Below db w4 wr

set_option maxHeartbeats 8000000 in
set_option maxRecDepth 100000 in
/-- The document's look at who calls whom, where who calls stands above whom it calls. -/
theorem rcalls_deep (SA : Option Addr) (SC : Nat) (l : List SymD) (Ca : Option Addr) (Cc : Nat) (consts : List Int) (Fa : Option Addr) (Fc : Nat) (funcs : List (List Int)) (Fv : Nat → Option Addr) (Fl : Nat → Nat) (w : World)
    (h : ImgAt w SA SC l Ca Cc consts Fa Fc funcs Fv Fl) (hf : 1 ≤ funcs.length ∧ funcs.length ≤ 4) (hfl : ∀ b ∈ funcs, b.length ≤ 120)
    (D : Nat → Int) (hD : ∀ k, k < funcs.length → 1 ≤ D k ∧ D k ≤ funcs.length) (hF : ∀ (k : Nat) (b : List Int), funcs[k]? = some b → (opsL b).2 = 0 ∧ (opsL b).1.length ≤ 120 ∧ ∀ t ∈ callsL (opsL b).1, ∃ q : Nat, t = q ∧ q < funcs.length ∧ D q + 1 ≤ D k) :
    Calls Tryd.prog 46 #[.agg #[.slice SA l.length SC, .slice Ca consts.length Cc, .slice Fa funcs.length Fc]] w fun e w' => (∃ v : Value, e = .returned (.tuple #[v, .int .i64 0])) ∧ Below w.heap.size w w' := by
  have H := Lib.hid h
  have HFl := Lib.hid hfl
  have HF := Lib.hid hF
  have hfI : (funcs.length : Int) ≤ Fc := by have := h.fc.1; omega
  obtain ⟨cb, co, hFa, hcbl, hcc⟩ := h.rf.2 (by omega)
  have HCC := Lib.hid hcc
  subst hFa
  obtain ⟨i0, hi, hz0, hz1, hz2⟩ := info_parts intsInfo
  obtain ⟨j0, ji, jz0, jz1, jz2⟩ := info_parts intInfoC
  have HD := Lib.hid hD
  obtain ⟨cs, hcs⟩ : ∃ cs : Nat → List Int, cs = fun i => callsL (opsL (funcs.getD i [])).1 := ⟨_, rfl⟩
  have hB1 := Lib.hid (show Below w.heap.size w (w.alloc (.cells #[.slice SA l.length SC, .slice Ca consts.length Cc, .slice (some ⟨cb, co, none⟩) funcs.length Fc] 29)) from (Below.refl _ w).alloc (Nat.le_refl _) _)
  clear h hfl hF hcc hD
  go_enter Tryd.func46, Tryd.ntmps46
  go_wp2_with fail
  obtain ⟨w1, hw1⟩ : ∃ x : World, x = (w.alloc (.cells #[.slice SA l.length SC, .slice Ca consts.length Cc, .slice (some ⟨cb, co, none⟩) funcs.length Fc] 29)) := ⟨_, rfl⟩
  rw [← hw1] at hB1
  have k2 : w1.cell? ⟨w.heap.size, 2, none⟩ = some (.slice (some ⟨cb, co, none⟩) funcs.length Fc) := by rw [hw1]; go_simp
  have hsz : w.heap.size < w1.heap.size := by rw [hw1]; simp
  have HI := Lib.hid (H.out.below hB1.out)
  rw [← hw1]
  clear hw1
  go_loopw [5, 6] (fun tv k wr => ToRelD w1 funcs.length cs tv k wr) (fun _ k _ => funcs.length - (intOf k).toNat)
  case atStart => exact ⟨0, [], rfl, Nat.zero_le _, ⟨rfl, World.ownsRow_nil _ _ _ _, fun i v h => by simp at h⟩, Below.refl _ _⟩
  case round =>
    obtain ⟨j, vs, rfl, hj, hto, hb⟩ := hrel
    have ho := hto.row
    have HTO := Lib.hid hto
    have HB := Lib.hid hb
    have HO := Lib.hid ho
    clear hto
    obtain ⟨tA, tc, htv, htc1, htc2⟩ := own_slice ho
    subst htv
    unfold maxLen at htc2
    have q2 := (dcell hb hsz 2).trans k2
    have HI2 := Lib.hid (HI.out.below hb)
    by_cases hjl : j < funcs.length
    · have hjl' : (j : Int) < funcs.length := by omega
      obtain ⟨b, hbx⟩ : ∃ b, funcs[j]? = some b := ⟨_, List.getElem?_eq_getElem hjl⟩
      have fk : wr.cell? ⟨cb, co + j, none⟩ = some (.slice (Fv j) b.length (Fl j)) := (dcell hb (Nat.lt_trans hcbl hsz) _).trans ((dcell hB1.out hcbl _).trans (HCC.out j _ (by rw [List.getElem?_map, List.getElem?_range hjl]; simp [List.getD_eq_getElem?_getD, hbx])))
      obtain ⟨hcr, hcl, hcm, hcb⟩ := HI2.out.code j b hbx
      have hb120 := HFl.out b (List.mem_of_getElem? hbx)
      obtain ⟨hR, hL120, hno⟩ := HF.out j b hbx
      have hcj : cs j = callsL (opsL b).1 := by rw [hcs]; simp [List.getD_eq_getElem?_getD, hbx]
      have HCJ := Lib.hid hcj
      have AL := Lib.hid (rall_any (Fv j) b.length (Fl j) (fun j => b.getD j 0) wr (Row.came hcr hcl hcm) (by omega) (fun i hi => by rw [List.getD_eq_getElem?_getD, List.getElem?_eq_getElem hi]; exact hcb _ (List.getElem_mem hi)))
      have hopsR : opsL b = runL (fun j => b.getD j 0) b.length (b.length + 1) 0 [] := rfl
      rw [← hopsR, hR] at AL
      clear hopsR hb ho hcr hcl hcm hcb hR hno hbx hcj
      generalize (opsL b).1 = L at *
      go_wp2_with fail
      refine AL.out.mono ?_
      rintro e w2 ⟨⟨B, nB, rfl, hrow⟩, hb2⟩
      have HROW := Lib.hid (show Row w2 w2.heap.size 5 B L.length (rowCells L) from ⟨rowCells_length L, fun h0 => by
        obtain ⟨bb, hB, _, hlt, hcl⟩ := hrow h0
        exact ⟨bb, 0, hB, hlt, fun j u hu => by rw [Nat.zero_add]; exact hcl j u hu⟩⟩)
      have HB2 := Lib.hid (HB.out.trans (hb2.mono HB.out.size))
      have HO2 := Lib.hid (row_keep HO.out hb2)
      have HBW := Lib.hid hb2
      clear hb2 hrow AL fk
      go_wp2_with fail
      have hTV := Lib.hid (show ToInv w1.heap.size funcs.length cs (.slice tA j tc) j vs w2 from ⟨HTO.out.len, HO2.out, fun i v hv => row_keep (HTO.out.each i v hv) HBW.out⟩)
      go_loopw [9, 10] (fun c i wr => CRel w2 w2.heap.size L c i wr) (fun _ i _ => L.length - (intOf i).toNat)
      case atStart => exact ⟨0, rfl, Nat.zero_le _, by simpa [callsL] using World.ownsRow_nil _ _ _ _, Below.refl _ _⟩
      case round =>
        obtain ⟨x, rfl, hx, hoc, hbx⟩ := hrel
        have HBX := Lib.hid hbx
        have HOC := Lib.hid hoc
        by_cases hxl : x < L.length
        · have hxl' : (x : Int) < L.length := by omega
          obtain ⟨o, ho⟩ : ∃ o, L[x]? = some o := ⟨_, List.getElem?_eq_getElem hxl⟩
          obtain ⟨lb, lo, hB, hlb, hlc⟩ := HROW.out.2 (by omega)
          have e2 := (dcell hbx hlb _).trans (hlc (x * 5 + 2) _ ((flat_get opCells 5 (fun _ => rfl) L x 2 o ho (by omega)).trans rfl))
          have e3 := (dcell hbx hlb _).trans (hlc (x * 5 + 3) _ ((flat_get opCells 5 (fun _ => rfl) L x 3 o ho (by omega)).trans rfl))
          rw [← Nat.add_assoc] at e2 e3
          have HAD := Lib.hid (callsL_add ho)
          clear hbx hlc ho hoc
          obtain ⟨o1, o2, s, a, n⟩ := o
          simp only at e2 e3 HAD
          subst hB
          have hlen9 : (callsL (L.take x)).length ≤ 120 := Nat.le_trans (callsL_len _) (by simp; omega)
          by_cases n20 : s = 20
          · subst n20
            go_wp2_with (at_builtin; refine wpList_append_own _ rfl _ _ 22 rfl w2.heap.size 3 j0 _ 1 8 intTyC ji jz0 jz1 jz2 rfl (by decide) _ (callsL (L.take x)).length ((callsL (L.take x)).map (Value.int .i64)) rfl (HOC.out.alloc _) ⟨_, 0, none⟩ 1 1 [.int .i64 a] rfl rfl (one_cell (by go_simp)) ?p3 ?p4 ?p5 ?p6 ?_)
            case p3 => first | (intro u hu; simp at hu; subst hu; rfl) | rfl
            case p4 => unfold maxLen; omega
            case p5 => omega
            case p6 => have := HBX.out.size; simp; omega
            intro v9 w9 hown hgrow hat
            have HO9 := Lib.hid hown
            have HB9 := Lib.hid (show Below w2.heap.size w2 w9 from (HBX.out.alloc HBX.out.size _).grown hgrow (by have := HBX.out.size; simp; omega) (fun k hk => (HOC.out.lt k hk).1))
            clear hown hgrow hat
            go_wp2
            go_roundw
            case rel =>
              refine ⟨x + 1, rfl, by omega, ?_, HB9.out⟩
              rw [HAD.out]
              simpa using HO9.out
            case measure => simp [intOf]; omega
          · have m20 : (s == 20) = false := by simp; omega
            go_wp2
            go_roundw
            case rel =>
              refine ⟨x + 1, rfl, by omega, ?_, HBX.out⟩
              rw [HAD.out]
              simp only [n20, if_false, List.append_nil]
              exact HOC.out
            case measure => simp [intOf]; omega
        · have hxs : x = L.length := by omega
          subst hxs
          rw [List.take_length] at hoc
          obtain ⟨cA, ccp, hu9, _, _⟩ := own_slice hoc
          subst hu9
          have HOC := Lib.hid hoc
          have HB3 := Lib.hid (HB2.out.trans (hbx.mono HB2.out.size))
          have HO3 := Lib.hid (row_keep HO2.out hbx)
          have HTV := Lib.hid (show ToInv w1.heap.size funcs.length cs (.slice tA j tc) j vs wr from ⟨hTV.out.len, HO3.out, fun i v hv => row_keep (hTV.out.each i v hv) hbx⟩)
          clear hbx hoc
          go_wp2_with (at_builtin; refine wpList_append_own _ rfl _ _ 120 rfl w1.heap.size 22 i0 _ 1 24 intssTy hi hz0 hz1 hz2 rfl (by decide) _ j vs rfl (HO3.out.alloc _) ⟨_, 0, none⟩ 1 1 [.slice cA (callsL L).length ccp] rfl rfl (one_cell (by go_simp)) ?p3 ?p4 ?p5 ?p6 ?_)
          case p3 => first | (intro u hu; simp at hu; subst hu; exact own_one HOC.out) | exact own_one HOC.out
          case p4 => unfold maxLen; omega
          case p5 => omega
          case p6 => have := HB3.out.size; simp; omega
          intro v9 w9 hown hgrow hat
          have HB9 := Lib.hid (show Below w1.heap.size w1 w9 from (HB3.out.alloc HB3.out.size _).grown hgrow (by have := HB3.out.size; simp; omega) (fun k hk => (HO3.out.lt k hk).1))
          have hc9 := own_ne HOC.out HO3.out (by decide)
          have HTN := Lib.hid (show ToInv w1.heap.size funcs.length cs v9 (j + 1) (vs ++ [.slice cA (callsL L).length ccp]) w9 from ⟨by simp [HTV.out.len], hown, fun i v hv => by
            by_cases hij : i < j
            · rw [List.getElem?_append_left (by rw [HTV.out.len]; exact hij)] at hv
              exact ((HTV.out.each i v hv).alloc _).kept hgrow (own_ne (HTV.out.each i v hv) HO3.out (by decide))
            · rw [List.getElem?_append_right (by rw [HTV.out.len]; omega), HTV.out.len] at hv
              have hij2 : i - j = 0 := by
                have := (List.getElem?_eq_some_iff.1 hv).1
                simp at this; omega
              rw [hij2] at hv
              simp at hv
              subst hv
              obtain rfl : i = j := by omega
              rw [HCJ.out]
              exact ((own_baseD HOC.out HB2.out.size).alloc _).kept hgrow hc9⟩)
          clear hown hgrow hat hc9
          go_wp2
          go_roundw
          case rel => exact ⟨j + 1, _, rfl, by omega, HTN.out, HB9.out⟩
          case measure => simp [intOf]; omega
    · have hjs : j = funcs.length := by omega
      subst hjs
      obtain ⟨w2, hw2⟩ : ∃ x : World, x = wr := ⟨_, rfl⟩
      subst hw2
      have hs2 : w.heap.size < w2.heap.size := Nat.lt_of_lt_of_le hsz HB.out.size
      have hs12 := HB.out.size
      have HT := Lib.hid (Row.of_own HO.out)
      have HTF := HTO
      have HB2 := Lib.hid (hB1.out.trans (HB.out.mono (Nat.le_of_lt hsz)))
      have HQ := Lib.hid (show ∀ k, k < funcs.length → ∀ t ∈ cs k, ∃ q : Nat, t = q ∧ q < funcs.length ∧ D q + 1 ≤ D k from fun k hk t ht => by
        obtain ⟨b, hbx⟩ : ∃ b, funcs[k]? = some b := ⟨_, List.getElem?_eq_getElem hk⟩
        rw [hcs] at ht
        simp only [List.getD_eq_getElem?_getD, hbx, Option.getD_some] at ht
        exact (HF.out k b hbx).2.2 t ht)
      clear hb ho k2 hcs
      have mk := make_intsC funcs.length (by omega)
      obtain ⟨tb, tof, hTA, htb, htc⟩ := HT.out.2 (by omega)
      have HTC := Lib.hid htc
      subst hTA
      have hnn : (funcs.length : Int) ≤ tc := by omega
      clear htc
      go_wp2_with fail
      obtain ⟨w3, hw3⟩ : ∃ x : World, x = (w2.alloc (.cells (Array.replicate funcs.length (.int .i64 0)) 3)) := ⟨_, rfl⟩
      have hdr := Lib.hid (show DeepRel w2 funcs.length (.int .i64 0) w3 from ⟨0, rfl, Nat.zero_le _, fun i hi => by rw [hw3]; constructor <;> go_simp <;> simp [hi], by rw [hw3]; exact (Below.refl _ _).alloc (Nat.le_refl _) _, by rw [hw3]; simp⟩)
      rw [← hw3]
      clear hw3
      go_loopw [12] (fun k wr => DeepRel w2 funcs.length k wr) (fun k _ => funcs.length - (intOf k).toNat)
      case atStart => exact hdr.out
      case round =>
        obtain ⟨j, rfl, hj, hcs, hb, hlt⟩ := hrel
        by_cases hjl : j < funcs.length
        · have hjl' : (j : Int) < funcs.length := by omega
          obtain ⟨c1, c2⟩ := hcs j hjl
          have HCS := Lib.hid hcs
          have HBJ := Lib.hid hb
          clear hcs hb
          go_wp2
          go_roundw
          case rel =>
            refine ⟨j + 1, rfl, by omega, fun i hi => ?_, ?_, by simpa using hlt⟩
            · by_cases hij : j = i
              · subst hij
                exact ⟨by rw [if_pos (by omega)]; exact cell_set_same c1, froz_set.trans c2⟩
              · obtain ⟨d1, d2⟩ := HCS.out i hi
                refine ⟨(cell_set_ne (.inr hij)).trans (d1.trans ?_), froz_set.trans d2⟩
                by_cases h1 : i < j
                · rw [if_pos h1, if_pos (by omega)]
                · rw [if_neg h1, if_neg (by omega)]
            · exact HBJ.out.setCell (Nat.le_refl _) _
          case measure => simp [intOf]; omega
        · have hjs : j = funcs.length := by omega
          subst hjs
          have HCS := Lib.hid hcs
          have HBJ := Lib.hid hb
          clear hcs
          obtain ⟨w4, hw4⟩ : ∃ x : World, x = wr := ⟨_, rfl⟩
          subst hw4
          have q2 := (dcell hb hs2 2).trans q2
          clear hb hdr
          have HDI := Lib.hid (show DInv w2.heap.size funcs.length D w4 from fun i hi => ⟨1, (HCS.out i hi).1.trans (by rw [if_pos hi]), (HCS.out i hi).2, Int.le_refl _, (HD.out i hi).1⟩)
          have HT1 := Lib.hid (show ∀ i v, vs[i]? = some v → w4.cell? ⟨tb, tof + i, none⟩ = some v from fun i v hv => (dcell HBJ.out htb _).trans (HTC.out i v hv))
          have HTE := Lib.hid (show ∀ i, i < funcs.length → ∃ v, vs[i]? = some v ∧ w4.ownsRow w1.heap.size 3 1 v (cs i).length ((cs i).map (Value.int .i64)) ∧ ∀ b, v.ownBlock = some b → b < w2.heap.size from fun i hi => by
            obtain ⟨v, hv⟩ : ∃ v, vs[i]? = some v := ⟨_, List.getElem?_eq_getElem (by rw [HTF.out.len]; exact hi)⟩
            exact ⟨v, hv, row_keep (HTF.out.each i v hv) HBJ.out, fun b hb => ((HTF.out.each i v hv).lt b hb).2⟩)
          have hlt2 : tb < w4.heap.size := by omega
          clear HCS HTC
          go_wp2_with fail
          go_loopw [13] (fun r wr => DRel w4 w2.heap.size funcs.length D (funcs.length + 1) r wr) (fun r _ => funcs.length + 1 - (intOf r).toNat)
          case atStart => exact ⟨0, rfl, Nat.zero_le _, HDI.out, Below.refl _ _⟩
          case round =>
            obtain ⟨r, rfl, hr, hdr, hbr⟩ := hrel
            have HDR := Lib.hid hdr
            have HBR := Lib.hid hbr
            have hr4 := hbr.size
            clear hbr hdr
            by_cases hrl : r < funcs.length + 1
            · have hrl' : (r : Int) ≤ funcs.length := by omega
              go_wp2_with fail
              go_loopw [14] (fun k wr => DRel w4 w2.heap.size funcs.length D funcs.length k wr) (fun k _ => funcs.length - (intOf k).toNat)
              case atStart => exact ⟨0, rfl, Nat.zero_le _, HDR.out, HBR.out⟩
              case round =>
                obtain ⟨k, rfl, hk, hdk, hbk⟩ := hrel
                have HDK := Lib.hid hdk
                have HBK := Lib.hid hbk
                by_cases hkl : k < funcs.length
                · have hkl' : (k : Int) < funcs.length := by omega
                  obtain ⟨v, hv, hve, hvb⟩ := HTE.out k hkl
                  obtain ⟨vA, vc, rfl, hv1, hv2⟩ := own_slice hve
                  unfold maxLen at hv2
                  have t1 := (dcell hbk htb _).trans (HT1.out k _ hv)
                  have HT2 := Lib.hid (HT1.out k _ hv)
                  have HVE := Lib.hid hve
                  have HVB := Lib.hid hvb
                  clear hbk hdk hv hve hvb
                  go_wp2_with fail
                  go_loopw [15] (fun i wr => DRel w4 w2.heap.size funcs.length D (cs k).length i wr) (fun i _ => (cs k).length - (intOf i).toNat)
                  case atStart => exact ⟨0, rfl, Nat.zero_le _, HDK.out, HBK.out⟩
                  case round =>
                    obtain ⟨i, rfl, hii, hdi, hbi⟩ := hrel
                    have HDI2 := Lib.hid hdi
                    have HBI := Lib.hid hbi
                    have t2 := (dcell hbi htb _).trans HT2.out
                    by_cases hil : i < (cs k).length
                    · have hil' : (i : Int) < (cs k).length := by omega
                      obtain ⟨t, ht⟩ : ∃ t, (cs k)[i]? = some t := ⟨_, List.getElem?_eq_getElem hil⟩
                      obtain ⟨q, rfl, hq, hqD⟩ := HQ.out k hkl t (List.mem_of_getElem? ht)
                      obtain ⟨ib, icap, hib, _, _⟩ := HVE.out.form (by omega)
                      obtain rfl : vA = some ⟨ib, 0, none⟩ := by injection hib
                      have hibl := HVB.out ib rfl
                      have e1 : wr.cell? ⟨ib, i, none⟩ = some (.int .i64 (q : Int)) := (dcell hbi hibl i).trans (by
                        rw [HVE.out.cellAt i (by omega), List.getElem?_map, ht]; rfl)
                      obtain ⟨dk, dk1, dk2, dk3, dk4⟩ := hdi k hkl
                      obtain ⟨dq, dq1, dq2, dq3, dq4⟩ := hdi q hq
                      have hDk := HD.out k hkl
                      have hqI : (q : Int) < funcs.length := by omega
                      have hqn : ¬ (funcs.length : Int) ≤ q := by omega
                      clear hbi hdi ht hib
                      have ew : IntKind.i64.wrap (dq + 1) = dq + 1 := IntWalk.i64_in _ (by omega)
                      have ew2 : wrap64 (dq + 1) = dq + 1 := IntWalk.wrap64_in _ (by omega)
                      go_wp2_with fail
                      go_region
                      go_wp2
                      go_roundw
                      case rel =>
                        refine ⟨i + 1, rfl, by omega, fun y hy => ?_, (HBI.out.setCell (Nat.le_refl _) _).drew⟩
                        by_cases hyk : k = y
                        · subst hyk
                          exact ⟨_, cell_set_same dk1, froz_set.trans dk2, by split <;> omega, by split <;> omega⟩
                        · obtain ⟨d, d1, d2, d3⟩ := HDI2.out y hy
                          exact ⟨d, (cell_set_ne (.inr hyk)).trans d1, froz_set.trans d2, d3⟩
                      case measure => simp [intOf]; omega
                    · have hie : i = (cs k).length := by omega
                      clear hbi hdi
                      have hin : ¬ (i : Int) < (cs k).length := by omega
                      go_wp2
                      go_roundw
                      case rel => exact ⟨k + 1, rfl, by omega, HDI2.out, HBI.out⟩
                      case measure => simp [intOf]; omega
                · have hke : k = funcs.length := by omega
                  have hkn : ¬ (k : Int) < funcs.length := by omega
                  clear hbk hdk
                  go_wp2
                  go_roundw
                  case rel => exact ⟨r + 1, rfl, by omega, HDK.out, HBK.out⟩
                  case measure => simp [intOf]; omega
            · have hre : r = funcs.length + 1 := by omega
              subst hre
              have hre' : ¬ ((funcs.length + 1 : Nat) : Int) ≤ funcs.length := by omega
              go_wp2_with fail
              obtain ⟨w5, hw5⟩ : ∃ x : World, x = wr := ⟨_, rfl⟩
              subst hw5
              go_loopw [16] (fun k wr => LoopRel w5 funcs.length k wr) (fun k _ => funcs.length - (intOf k).toNat)
              case atStart => exact ⟨0, rfl, Nat.zero_le _, Below.refl _ _⟩
              case round =>
                obtain ⟨k, rfl, hk, hbk⟩ := hrel
                by_cases hkl : k < funcs.length
                · have hkl' : (k : Int) < funcs.length := by omega
                  obtain ⟨d, d1, _, d3, d4⟩ := HDR.out k hkl
                  have hDk := HD.out k hkl
                  have dd1 := (dcell hbk (Nat.lt_of_lt_of_le hlt hr4) _).trans d1
                  have q2' := (dcell hbk (Nat.lt_of_lt_of_le (by omega) hr4) 2).trans ((dcell HBR.out (by omega) 2).trans q2)
                  have hn1 : decide ((funcs.length : Int) < d) = false := decide_eq_false (by omega)
                  have hn2 : decide ((4 : Int) < d) = false := decide_eq_false (by omega)
                  have hn3 : ¬ (4 : Int) < d := by omega
                  have hn4 : ¬ (funcs.length : Int) < d := by omega
                  have HBK := Lib.hid hbk
                  clear hbk
                  go_wp2
                  go_roundw
                  case rel => exact ⟨k + 1, rfl, by omega, HBK.out⟩
                  case measure => simp [intOf]; omega
                · have hke : k = funcs.length := by omega
                  subst hke
                  have HBK := Lib.hid hbk
                  clear hbk
                  go_wp2
                  go_ret2
                  exact ⟨⟨_, rfl⟩, HB2.out.trans (((HBJ.out.trans (HBR.out.mono (by have := HBJ.out.size; omega))).trans (HBK.out.mono (by have := HBJ.out.size; omega))).mono (by omega))⟩
end Go.Proofs.YtngobbbinacomaaDoor
