/- Chapter 14: VmRuns, walked: the two runs of a sound program answer alike. -/
import Derived.Test.YtngobbbinacomaaDoorQ46
import Derived.BigQuiet
import Derived.Deep.QuietTactic
import Derived.BigGuardPart
namespace Go.Proofs.YtngobbbinacomaaDoor
open Go.RowKit Go.Proofs.YtngobbbinacomaaDoor.c11 Go.Proofs.YtngobbbinacomaaDoor.c10 Go.Proofs.YtngobbbinacomaaDoor.c13
set_option linter.unusedVariables false
set_option linter.unusedSimpArgs false
attribute [local go_sem ↓] Go.wp_at_zero Go.wp_at_succ
/-- What a run of a sound program leaves. -/
theorem ran_law (longer : Bool) {sb cb f fc nf : Nat} {codes : List (List Int)} {vs : List Value} (hcl : codes.length = nf + 1) (hm : ∀ (i : Nat) (b : List Int), codes[i]? = some b → CodeMade (cellsOf (symsP longer)) (if i = 0 then (nf : Int) else 0) b) (i0 i1 i2 i3 now p0 p1 p2 p3 : Int) (zs : List Int) (hck : CellsK (cellsOf (symsP longer)) zs) (l : Nat) {R : St × Int} (hR : ranO (envS longer sb cb f fc codes vs i0 i1 i2 i3 now) zs p0 p1 p2 p3 l = R) :
    R.1.used ≤ l ∧ (R.2 = 0 → CellsK (cellsOf (symsP longer)) R.1.cells) ∧ (R.2 = 0 ∨ R.2 = 21 ∨ R.2 = 22 ∨ R.2 = 23) ∧ R.1.cells.length = zs.length := by
  subst hR
  obtain ⟨b, hb⟩ : ∃ b, codes[0]? = some b := ⟨_, List.getElem?_eq_getElem (by omega)⟩
  have e : (envS longer sb cb f fc codes vs i0 i1 i2 i3 now).funcs.getD 0 [] = b := by show codes.getD 0 [] = b; rw [List.getD_eq_getElem?_getD, hb]; rfl
  unfold ranO
  rw [e]
  have h1 := execP_left (envS longer sb cb f fc codes vs i0 i1 i2 i3 now) (l + 1) b 0 ⟨zs, p0, p1, p2, p3, l, 0, []⟩
  have h2 := exec_typed (E := envS longer sb cb f fc codes vs i0 i1 i2 i3 now) rfl rfl (symsP_lay longer) (show Funcs12 (cellsOf (symsP longer)) nf codes from ⟨hcl, hm⟩) (l + 1) nf b 0 [] ⟨zs, p0, p1, p2, p3, l, 0, []⟩ (by have h := hm 0 b hb; rw [if_pos rfl] at h; exact h.startK) (Int.le_refl _) ⟨hck, ⟨rfl, by simp⟩⟩ (Nat.lt_succ_self _)
  have h3 := execP_cells (envS longer sb cb f fc codes vs i0 i1 i2 i3 now) (l + 1) b 0 ⟨zs, p0, p1, p2, p3, l, 0, []⟩
  refine ⟨?_, h2.1, h2.2, h3⟩
  have h4 := h1.2
  simp only at h4
  omega
/-- The boxes of a program, of inputs, of outputs. -/
structure Boxes (w : World) (m q r : Nat) (V0 V1 V2 : Value) (i0 i1 i2 i3 p0 p1 p2 p3 : Int) : Prop where
  m0 : w.cell? ⟨m, 0, none⟩ = some V0
  m1 : w.cell? ⟨m, 1, none⟩ = some V1
  m2 : w.cell? ⟨m, 2, none⟩ = some V2
  n0 : w.cell? ⟨q, 0, none⟩ = some (.int .i64 i0)
  n1 : w.cell? ⟨q, 1, none⟩ = some (.int .i64 i1)
  n2 : w.cell? ⟨q, 2, none⟩ = some (.int .i64 i2)
  n3 : w.cell? ⟨q, 3, none⟩ = some (.int .i64 i3)
  r0 : w.cell? ⟨r, 0, none⟩ = some (.int .i64 p0)
  r1 : w.cell? ⟨r, 1, none⟩ = some (.int .i64 p1)
  r2 : w.cell? ⟨r, 2, none⟩ = some (.int .i64 p2)
  r3 : w.cell? ⟨r, 3, none⟩ = some (.int .i64 p3)
  hm : m < w.heap.size
  hq : q < w.heap.size
  hr : r < w.heap.size
theorem Boxes.below {w w' : World} {m q r : Nat} {V0 V1 V2 : Value} {i0 i1 i2 i3 p0 p1 p2 p3 : Int} (h : Boxes w m q r V0 V1 V2 i0 i1 i2 i3 p0 p1 p2 p3) (hb : Below w.heap.size w w') : Boxes w' m q r V0 V1 V2 i0 i1 i2 i3 p0 p1 p2 p3 :=
  ⟨(dcell hb h.hm 0).trans h.m0, (dcell hb h.hm 1).trans h.m1, (dcell hb h.hm 2).trans h.m2, (dcell hb h.hq 0).trans h.n0, (dcell hb h.hq 1).trans h.n1, (dcell hb h.hq 2).trans h.n2, (dcell hb h.hq 3).trans h.n3, (dcell hb h.hr 0).trans h.r0, (dcell hb h.hr 1).trans h.r1, (dcell hb h.hr 2).trans h.r2, (dcell hb h.hr 3).trans h.r3, Nat.lt_of_lt_of_le h.hm hb.size, Nat.lt_of_lt_of_le h.hq hb.size, Nat.lt_of_lt_of_le h.hr hb.size⟩
theorem box_new44 {u w5 : World} {a b c d a' b' c' d' : Value} {t t' : TypeId} (hb : Below ((u.alloc (.cells #[a, b, c, d] t)).alloc (.cells #[a', b', c', d'] t')).heap.size ((u.alloc (.cells #[a, b, c, d] t)).alloc (.cells #[a', b', c', d'] t')) w5) :
    (w5.cell? ⟨u.heap.size, 0, none⟩ = some a ∧ w5.cell? ⟨u.heap.size, 1, none⟩ = some b ∧ w5.cell? ⟨u.heap.size, 2, none⟩ = some c ∧ w5.cell? ⟨u.heap.size, 3, none⟩ = some d) ∧
    w5.cell? ⟨u.heap.size + 1, 0, none⟩ = some a' ∧ w5.cell? ⟨u.heap.size + 1, 1, none⟩ = some b' ∧ w5.cell? ⟨u.heap.size + 1, 2, none⟩ = some c' ∧ w5.cell? ⟨u.heap.size + 1, 3, none⟩ = some d' :=
  ⟨⟨(dcell hb (by simp; omega) 0).trans (by go_simp), (dcell hb (by simp; omega) 1).trans (by go_simp), (dcell hb (by simp; omega) 2).trans (by go_simp), (dcell hb (by simp; omega) 3).trans (by go_simp)⟩, (dcell hb (by simp) 0).trans (by go_simp), (dcell hb (by simp) 1).trans (by go_simp), (dcell hb (by simp) 2).trans (by go_simp), (dcell hb (by simp) 3).trans (by go_simp)⟩
/-- The cells of one box. -/
structure Box4 (w : World) (q : Nat) (p0 p1 p2 p3 : Int) : Prop where
  c0 : w.cell? ⟨q, 0, none⟩ = some (.int .i64 p0)
  c1 : w.cell? ⟨q, 1, none⟩ = some (.int .i64 p1)
  c2 : w.cell? ⟨q, 2, none⟩ = some (.int .i64 p2)
  c3 : w.cell? ⟨q, 3, none⟩ = some (.int .i64 p3)
  lt : q < w.heap.size
theorem Box4.below {w w' : World} {q : Nat} {p0 p1 p2 p3 : Int} (h : Box4 w q p0 p1 p2 p3) (hb : Below w.heap.size w w') : Box4 w' q p0 p1 p2 p3 :=
  ⟨(dcell hb h.lt 0).trans h.c0, (dcell hb h.lt 1).trans h.c1, (dcell hb h.lt 2).trans h.c2, (dcell hb h.lt 3).trans h.c3, Nat.lt_of_lt_of_le h.lt hb.size⟩
theorem box4_new (w : World) (p0 p1 p2 p3 : Int) (t : TypeId) : Box4 (w.alloc (.cells #[.int .i64 p0, .int .i64 p1, .int .i64 p2, .int .i64 p3] t)) w.heap.size p0 p1 p2 p3 :=
  ⟨by go_simp, by go_simp, by go_simp, by go_simp, by simp⟩
set_option maxHeartbeats 16000000 in
set_option maxRecDepth 100000 in
theorem vmRuns_walk (A0 : Option Addr) (len0 cap0 : Nat) (z0 : Nat → Int) (a1 : Bool) (A2 : Option Addr) (len2 cap2 : Nat) (z2 : Nat → Int) (i0 i1 i2 i3 p0 p1 p2 p3 : Int) (a5 a6 : Int) (w : World) (c0 : Came w A0 len0 cap0 fun j => .int .i64 (z0 j)) (w0 : ∀ j, j < len0 → I64 (z0 j)) (c2 : Came w A2 len2 cap2 fun j => .int .i64 (z2 j)) (wx2 : ∀ j, j < len2 → I64 (z2 j)) (w30 : I64 i0) (w31 : I64 i1) (w32 : I64 i2) (w33 : I64 i3) (w40 : I64 p0) (w41 : I64 p1) (w42 : I64 p2) (w43 : I64 p3) (w50 : I64 a5) (w60 : I64 a6) :
    Calls Tryd.prog 3 #[.slice A0 len0 cap0, .bool a1, .slice A2 len2 cap2, .agg #[.int .i64 i0, .int .i64 i1, .int .i64 i2, .int .i64 i3], .agg #[.int .i64 p0, .int .i64 p1, .int .i64 p2, .int .i64 p3], .int .i64 a5, .int .i64 a6] w fun e w' => e = .returned (.bool true) ∧ Below w.heap.size w w' := by
  have KN := Lib.hid (fun W => known14_any W)
  have hcap := c0.max
  have hle := c0.le
  have hcap2 := c2.max
  have hle2 := c2.le
  clear w30 w31 w32 w33 w40 w41 w42 w43
  obtain ⟨q5, hq5⟩ : ∃ q, a5 % 1099511627777 = q := ⟨_, rfl⟩
  have W5 := Lib.hid (fun W => show Calls Tryd.prog 21 #[.int .i64 a5, .int .i64 1099511627777] W (fun e w' => e = .returned (.int .i64 q5) ∧ W = w') from by have h := within14_any a5 1099511627777 (by decide) (by decide) W; rw [hq5] at h; exact h)
  obtain ⟨q6, hq6⟩ : ∃ q : Nat, a6 % 260 = (q : Int) := ⟨(a6 % 260).toNat, by omega⟩
  have hq6l : q6 < 260 := by omega
  have W6 := Lib.hid (fun W => show Calls Tryd.prog 21 #[.int .i64 a6, .int .i64 260] W (fun e w' => e = .returned (.int .i64 (q6 : Int)) ∧ W = w') from by have h := within14_any a6 260 (by decide) (by decide) W; rw [hq6] at h; exact h)
  clear hq5 hq6 w50 w60
  by_cases hfa0 : len0 ≤ 80
  · have FA := Lib.hid (fun W => by have h := few12_any A0 len0 cap0 W (by omega); rw [decide_eq_true hfa0] at h; exact h)
    have SD := Lib.hid (fun u (hu : Below w.heap.size w u) => sound_any a1 A0 len0 cap0 z0 u (c0.belowC hu) w0 hfa0)
    have HNW := Lib.hid (fun u (hu : Below w.heap.size w u) => c2.belowC hu)
    clear c0 w0 c2 wx2
    go_enter Tryd.func3, Tryd.ntmps3
    go_wp2_with (first | (go_at_call 17; refine (KN.out _).mono ?_; rintro e w1 ⟨rfl, hb1⟩; have HB1 := Lib.hid (show Below w.heap.size w w1 from (((Below.refl _ w).alloc (Nat.le_refl _) _).alloc (by simp) _).trans (hb1.mono (by simp; omega))); have HQ1 := Lib.hid (box_new44 hb1); have hz1 := hb1.size; (try simp at hz1); clear hb1) | (go_at_call 18; (with_reducible refine (FA.out _).mono ?_); rintro e _ ⟨rfl, rfl⟩))
    refine (SD.out _ HB1.out).mono ?_
    rintro e w2 ⟨⟨sb, cb, f, fc, nf, codes, vs, rfl, hsy, hko, hfa, hfc1, hfc2, hcl, hnf, hmd⟩, hbw2⟩
    have hz2 := hbw2.size
    have HB2 := Lib.hid (HB1.out.trans (hbw2.mono (by omega)))
    obtain ⟨zs, hzs⟩ : ∃ l, l = envN (cellsOf (symsP a1)) len2 z2 := ⟨_, rfl⟩
    have hck : CellsK (cellsOf (symsP a1)) zs := by rw [hzs]; exact envN_cellsK (symsP_init a1) _ _
    have hzl : zs.length = (cellsOf (symsP a1)).length := hck.len
    have hzs0 : zs.length ≤ 200 ∧ 0 < zs.length := by have := symsP_cells a1; omega
    have Hzs := Lib.hid hzs
    have HzsL := Lib.hid hzl
    have HCK := Lib.hid hck
    go_wp2_with fail
    obtain ⟨wv, hwv⟩ : ∃ x : World, x = w2.alloc (.cells #[(.slice (some ⟨sb, 0, none⟩) 7 7), (.slice (some ⟨cb, 0, none⟩) 2 2), (.slice (some ⟨f, 0, none⟩) (nf + 1) fc)] 29) := ⟨_, rfl⟩
    have hbv : Below w2.heap.size w2 wv := by rw [hwv]; exact (Below.refl _ _).alloc (Nat.le_refl _) _
    have hzv : wv.heap.size = w2.heap.size + 1 := by rw [hwv]; simp
    have hq2 := HQ1.out
    have HBV0 := Lib.hid (show Boxes wv w2.heap.size w.heap.size (w.heap.size + 1) (.slice (some ⟨sb, 0, none⟩) 7 7) (.slice (some ⟨cb, 0, none⟩) 2 2) (.slice (some ⟨f, 0, none⟩) (nf + 1) fc) i0 i1 i2 i3 p0 p1 p2 p3 from by
      obtain ⟨⟨x0, x1, x2, x3⟩, y0, y1, y2, y3⟩ := hq2
      have hb : Below w1.heap.size w1 wv := hbw2.trans (hbv.mono hz2)
      exact ⟨by rw [hwv]; go_simp, by rw [hwv]; go_simp, by rw [hwv]; go_simp, (dcell hb (by omega) 0).trans x0, (dcell hb (by omega) 1).trans x1, (dcell hb (by omega) 2).trans x2, (dcell hb (by omega) 3).trans x3, (dcell hb (by omega) 0).trans y0, (dcell hb (by omega) 1).trans y1, (dcell hb (by omega) 2).trans y2, (dcell hb (by omega) 3).trans y3, by omega, by omega, by omega⟩)
    have HBV := Lib.hid (show Below w.heap.size w wv from HB2.out.trans (hbv.mono (by omega)))
    have hlwv : w.heap.size ≤ wv.heap.size := HBV.out.size
    have HN2 := Lib.hid (HNW.out wv HBV.out)
    have HSY := Lib.hid ((hsy.below hbv).moreS hbv.size)
    have HKO := Lib.hid ((hko.below hbv).more hbv.size)
    have HFA := Lib.hid (hfa.below hbv)
    have HFC := Lib.hid (And.intro hfc1 hfc2)
    have HCL := Lib.hid hcl
    have HNF := Lib.hid hnf
    have HMD := Lib.hid hmd
    have LC := Lib.hid ((lcellsN_any (some ⟨sb, 0, none⟩) 7 7 (symsP a1) (some ⟨cb, 0, none⟩) (some ⟨f, 0, none⟩) 2 2 (nf + 1) fc A2 len2 cap2 z2 wv (HSY.out) (by decide) (by decide) (by decide) (symsP_size a1) (symsP_cells a1).1 HN2.out).mono (fun e w' (h : ∃ v, e = .returned v ∧ w'.ownsRow wv.heap.size 3 1 v (cellsOf (symsP a1)).length ((envN (cellsOf (symsP a1)) len2 z2).map (Value.int .i64)) ∧ Below wv.heap.size wv w') => show (∃ ww wcp, e = .returned (.slice (some ⟨ww, 0, none⟩) zs.length wcp) ∧ (zs.length ≤ wcp ∧ wcp ≤ maxLen) ∧ w'.ownsRow wv.heap.size 3 1 (.slice (some ⟨ww, 0, none⟩) zs.length wcp) zs.length (zs.map (Value.int .i64))) ∧ Below wv.heap.size wv w' from by
      obtain ⟨v, h1, h2, h3⟩ := h
      rw [← Hzs.out, ← HzsL.out] at h2
      obtain ⟨g, cap, rfl, _, _⟩ := h2.form hzs0.2
      obtain ⟨_, cap', e1, e2, e3⟩ := own_slice h2
      obtain rfl : cap = cap' := by injection e1
      exact ⟨⟨g, cap, h1, ⟨e2, e3⟩, h2⟩, h3⟩))
    have RC := Lib.hid (fun (W : World) (hb : Below wv.heap.size wv W) => (rcells_any (some ⟨sb, 0, none⟩) 7 7 (symsP a1) W ((HSY.out.below hb).moreS hb.size) (by decide) (by decide) (by decide) (symsP_size a1)).mono (fun e w' (h : ∃ v, e = .returned v ∧ w'.ownsRow W.heap.size 42 6 v (cellsOf (symsP a1)).length (cellRow (cellsOf (symsP a1))) ∧ Below W.heap.size W w') => show ∃ lb lo Lc, e = .returned (.slice (some ⟨lb, lo, none⟩) zs.length Lc) ∧ (zs.length ≤ Lc ∧ Lc ≤ maxLen) ∧ lb < w'.heap.size ∧ (∀ j v, (cellRow (cellsOf (symsP a1)))[j]? = some v → w'.cell? ⟨lb, lo + j, none⟩ = some v) ∧ Below W.heap.size W w' from by
      obtain ⟨v, h1, h2, h3⟩ := h
      rw [← HzsL.out] at h2
      obtain ⟨A, cap, rfl, e2, e3⟩ := own_slice h2
      obtain ⟨b, off, rfl, e4, e5⟩ := (Row.of_own h2).2 hzs0.2
      exact ⟨b, off, cap, h1, ⟨e2, e3⟩, e4, e5, h3⟩))
    have RV0 := fun (u : World) (hu : Below wv.heap.size wv u) (ww wcp base : Nat) (ho : u.ownsRow base 3 1 (.slice (some ⟨ww, 0, none⟩) zs.length wcp) zs.length (zs.map (Value.int .i64))) (hc : zs.length ≤ wcp) => (sound_runO a1 (sb := sb) (cb := cb) (f := f) (fc := fc) (nf := nf) (codes := codes) (vs := vs) (u := u) ((HSY.out.below hu).moreS hu.size) ((HKO.out.below hu).more hu.size) (HFA.out.below hu) ⟨HFC.out.1, HFC.out.2⟩ HCL.out HNF.out HMD.out i0 i1 i2 i3 q5 p0 p1 p2 p3 (some ⟨ww, 0, none⟩) zs.length wcp zs (Row.of_own ho) (by omega) hc q6 (by omega)).mono fun e w' h => post_of (R := (ranO (envS a1 sb cb f fc codes vs i0 i1 i2 i3 q5) zs p0 p1 p2 p3 (max (q6 : Int) 0).toNat)) h
    have RW0 := fun (u : World) (hu : Below wv.heap.size wv u) (ww wcp base : Nat) (ho : u.ownsRow base 3 1 (.slice (some ⟨ww, 0, none⟩) zs.length wcp) zs.length (zs.map (Value.int .i64))) (hc : zs.length ≤ wcp) => (rsound_runO a1 (sb := sb) (cb := cb) (f := f) (fc := fc) (nf := nf) (codes := codes) (vs := vs) (u := u) ((HSY.out.below hu).moreS hu.size) ((HKO.out.below hu).more hu.size) (HFA.out.below hu) ⟨HFC.out.1, HFC.out.2⟩ HCL.out HNF.out HMD.out i0 i1 i2 i3 q5 p0 p1 p2 p3 (some ⟨ww, 0, none⟩) zs.length wcp zs (Row.of_own ho) HCK.out hc q6 (by omega) (by omega)).mono fun e w' h => post_of (R := (ranO (envS a1 sb cb f fc codes vs i0 i1 i2 i3 q5) zs p0 p1 p2 p3 (max (q6 : Int) 0).toNat)) h
    rw [HCL.out, show (max (q6 : Int) 0).toNat = q6 by omega] at RV0 RW0
    obtain ⟨R, hR⟩ : ∃ R, (ranO (envS a1 sb cb f fc codes vs i0 i1 i2 i3 q5) zs p0 p1 p2 p3 q6) = R := ⟨_, rfl⟩
    rw [hR] at RV0 RW0
    have hlaw := ran_law a1 HCL.out HMD.out i0 i1 i2 i3 q5 p0 p1 p2 p3 zs HCK.out q6 hR
    have hok0 : okOf R = if R.2 = 0 then some R.1.cells else none := rfl
    clear hR
    generalize outOf R R.1.o0 = P0 at *
    generalize outOf R R.1.o1 = P1 at *
    generalize outOf R R.1.o2 = P2 at *
    generalize outOf R R.1.o3 = P3 at *
    generalize okOf R = ok at *
    generalize R.1.cells = cs at *
    generalize R.1.used = un at *
    generalize R.2 = X at *
    obtain ⟨hun, hcsk, hX, hcsl⟩ := hlaw
    have HOKR := Lib.hid hok0
    have RV := Lib.hid RV0
    have RW := Lib.hid RW0
    have HCSK := Lib.hid hcsk
    have HX := Lib.hid hX
    have HCSL := Lib.hid hcsl
    obtain ⟨ii, hi, hzz0, hzz1, hzz2⟩ := info_parts machInt
    rw [← hwv]
    clear hwv hbv hbw2 hz2 RV0 RW0 hok0 hsy hko hfa hfc1 hfc2 hcl hnf hmd hz1 hzs hzl hck hcsk hX hcsl hq2 hzv
    refine LC.out.mono ?_
    rintro e w4 ⟨⟨ww, wcp, rfl, ⟨hc1, hc2⟩, ho4⟩, hb4⟩
    unfold maxLen at hc2
    have HO4 := Lib.hid ho4
    have HB4 := Lib.hid hb4
    have HBX4 := Lib.hid (HBV0.out.below hb4)
    clear ho4 hb4
    go_upto_region 8 with (go_at_call 21; first | ((with_reducible refine (W5.out _).mono ?_); rintro e _ ⟨rfl, rfl⟩) | ((with_reducible refine (W6.out _).mono ?_); rintro e _ ⟨rfl, rfl⟩))
    go_upto_region 9 with (at_builtin; refine wpList_append_row _ rfl _ _ 22 rfl w4.heap.size 3 ii _ 1 8 machTy hi hzz0 hzz1 hzz2 rfl (by decide) (.slice (some ⟨w4.heap.size, 0, none⟩) 0 0) 0 [] rfl (by repeat (first | (with_reducible refine own_dr ?_) | exact World.ownsRow_made _ #[] 0 (by first | omega | (simp; done) | (simp; omega)) (Nat.zero_le _) rfl)) _ (some ⟨ww, 0, none⟩) zs.length wcp (zs.map (Value.int .i64)) rfl (Row.of_own (own_bel HO4.out (by repeat (first | (with_reducible exact Below.refl _ _) | (with_reducible refine Below.drew ?_) | (with_reducible refine Below.alloc ?_ (by first | omega | (simp; done) | (simp; omega)) _))))) (valInts_one _) (by unfold maxLen; omega) (by omega) (by first | omega | (simp; done) | (simp; omega)) ?_; intro v5 w5 hown hgrow hat; have HO5 := Lib.hid (show w5.ownsRow w4.heap.size 3 1 v5 zs.length (zs.map (Value.int .i64)) by simpa using hown); have HB5 := Lib.hid (show Below w4.heap.size w4 w5 from Below.grown (by repeat (first | (with_reducible exact Below.refl _ _) | (with_reducible refine Below.drew ?_) | (with_reducible refine Below.alloc ?_ (by first | omega | (simp; done) | (simp; omega)) _))) hgrow (by first | omega | (simp; done) | (simp; omega)) (by intro k hk; simp [Value.ownBlock] at hk; omega)); obtain ⟨wk, wkc, rfl, hwk1, hwk2⟩ := World.ownsRow.form HO5.out hzs0.2; clear hown hgrow hat)
    have hk5 : zs.length ≤ wkc ∧ wkc ≤ 9223372036854775807 := by
      obtain ⟨_, c, hv, h1, h2⟩ := own_slice HO5.out
      obtain rfl : wkc = c := by injection hv
      unfold maxLen at h2
      exact ⟨h1, h2⟩
    obtain ⟨hk51, hk52⟩ := hk5
    have HOC5 := Lib.hid (own_bel HO4.out HB5.out)
    have HBX5 := Lib.hid (HBX4.out.below HB5.out)
    have HB45 := Lib.hid (below3 HB4.out HB4.out.size HB5.out)
    obtain ⟨m0, m1, m2, n0, n1, n2, n3, r0, r1, r2, r3, hlm, hlq, hlr⟩ := HBX5.out
    go_wp2_with fail
    refine (RV.out w5 HB45.out ww wcp _ HOC5.out hc1).mono ?_
    clear m0 m1 m2 n0 n1 n2 n3 r0 r1 r2 r3 hlm hlq hlr
    rintro e w6 ⟨hb6, v1, rfl, hvp1, hfar1⟩
    obtain ⟨m0, m1, m2, n0, n1, n2, n3, r0, r1, r2, r3, hlm, hlq, hlr⟩ := HBX5.out.below hb6
    have HBX6 := Lib.hid (HBX5.out.below hb6)
    have HB6 := Lib.hid hb6
    have HVP1 := Lib.hid hvp1
    have HFAR1 := Lib.hid hfar1
    clear hb6 hvp1 hfar1
    go_wp2_with fail
    obtain ⟨wy, hwy⟩ : ∃ x : World, x = w6.alloc (.cells #[.int .i64 P0, .int .i64 P1, .int .i64 P2, .int .i64 P3] 23) := ⟨_, rfl⟩
    have hby : Below w6.heap.size w6 wy := by rw [hwy]; exact alloc_bel _ _
    have HD1 := Lib.hid (show Box4 wy w6.heap.size P0 P1 P2 P3 by rw [hwy]; exact box4_new _ _ _ _ _ _)
    rw [← hwy]
    have h5y : Below w5.heap.size w5 wy := below3 HB6.out HB6.out.size hby
    have HBXY := Lib.hid (HBX6.out.below hby)
    have HBVY := Lib.hid (below3 HB45.out HB45.out.size h5y)
    have HOCY := Lib.hid (own_bel HOC5.out h5y)
    have HO5Y := Lib.hid (own_bel HO5.out h5y)
    have HVPY := Lib.hid (HVP1.out.below hby)
    clear hwy hby h5y m0 m1 m2 n0 n1 n2 n3 r0 r1 r2 r3 hlm hlq hlr
    refine (RW.out wy HBVY.out ww wcp _ HOCY.out hc1).mono ?_
    rintro e w7 ⟨hb7, v2, rfl, hvp2, hfar2⟩
    obtain ⟨m0, m1, m2, n0, n1, n2, n3, r0, r1, r2, r3, hlm, hlq, hlr⟩ := HBXY.out.below hb7
    have HB7 := Lib.hid hb7
    have HVP2 := Lib.hid hvp2
    clear hb7 hvp2 hfar2
    go_wp2_with fail
    obtain ⟨wz, hwz⟩ : ∃ x : World, x = w7.alloc (.cells #[.int .i64 P0, .int .i64 P1, .int .i64 P2, .int .i64 P3] 23) := ⟨_, rfl⟩
    have hbz : Below w7.heap.size w7 wz := by rw [hwz]; exact alloc_bel _ _
    have HD2Z := Lib.hid (show Box4 wz w7.heap.size P0 P1 P2 P3 by rw [hwz]; exact box4_new _ _ _ _ _ _)
    rw [← hwz]
    have hyz : Below wy.heap.size wy wz := below3 HB7.out HB7.out.size hbz
    have HD1Z := Lib.hid (HD1.out.below hyz)
    have HBXZ := Lib.hid (HBXY.out.below hyz)
    have HBVZ := Lib.hid (below3 HBVY.out HBVY.out.size hyz)
    have HOCZ := Lib.hid (own_bel HOCY.out hyz)
    have HOKZ := Lib.hid (own_bel HO5Y.out hyz)
    have HVPZ1 := Lib.hid (HVPY.out.below hyz)
    have HVPZ2 := Lib.hid (HVP2.out.below hbz)
    have IN2 := Lib.hid (fun W (hb : Below wz.heap.size wz W) => ints_same ww wk wcp wkc zs.length zs W (by have := (HOCZ.out.lt ww rfl).2; have := hb.size; omega) (by have := (HOKZ.out.lt wk rfl).2; have := hb.size; omega) rfl ⟨by omega, by omega⟩ ⟨by omega, by omega⟩ (fun q x hq => own_at (own_bel HOCZ.out hb) q x hq) (fun q x hq => own_at (own_bel HOKZ.out hb) q x hq))
    clear hwz hbz hyz m0 m1 m2 n0 n1 n2 n3 r0 r1 r2 r3 hlm hlq hlr RV RW
    have E4 := eq4_same P0 P1 P2 P3
    have hle1 : ¬ (q6 : Int) < un := by omega
    have hle2 : ¬ (un : Int) < 0 := by omega
    have hle3 : decide (q6 < un) = false := by simp; omega
    have hok := HOKR.out
    rcases HX.out with hx | hx | hx | hx
    · subst hx
      rw [if_pos rfl] at hok
      subst hok
      have hv1 : wz.ownsRow 0 3 1 v1 zs.length (cs.map (Value.int .i64)) := by have h := HVPZ1.out; unfold VP at h; simp only at h; rw [HCSL.out] at h; exact h
      have hv2 : wz.ownsRow 0 3 1 v2 zs.length (cs.map (Value.int .i64)) := by have h := HVPZ2.out; unfold VP at h; simp only at h; rw [HCSL.out] at h; exact h
      obtain ⟨d1, e1, rfl, _, hd1⟩ := hv1.form hzs0.2
      obtain ⟨d2, e2, rfl, _, hd2⟩ := hv2.form hzs0.2
      obtain ⟨_, e1', hx0, hx1, hx2⟩ := own_slice hv1
      obtain rfl : e1 = e1' := by injection hx0
      obtain ⟨_, e2', hy0, hy1, hy2⟩ := own_slice hv2
      obtain rfl : e2 = e2' := by injection hy0
      unfold maxLen at hx2 hy2
      have hx1I : (zs.length : Int) ≤ e1 := by omega
      have hx2I : (e1 : Int) ≤ 9223372036854775807 := by omega
      have IN1 := Lib.hid (ints_same d1 d2 e1 e2 zs.length cs wz hd1 hd2 HCSL.out ⟨by omega, by omega⟩ ⟨by omega, by omega⟩ (fun q x hq => own_at hv1 q x hq) (fun q x hq => own_at hv2 q x hq))
      have HV1 := Lib.hid hv1
      clear hv1 hv2 hx0 hy0
      with_reducible refine IN1.out.mono ?_
      rintro e w9 ⟨rfl, hb9⟩
      obtain ⟨x0, x1, x2, x3, hxl⟩ := HD1Z.out.below hb9
      obtain ⟨y0, y1, y2, y3, hyl⟩ := HD2Z.out.below hb9
      have HB9 := Lib.hid hb9
      clear hb9
      go_wp2_with fail
      with_reducible refine (IN2.out w9 HB9.out).mono ?_
      rintro e w10 ⟨rfl, hb10⟩
      have HB10 := Lib.hid (below3 HB9.out HB9.out.size hb10)
      obtain ⟨m0, m1, m2, n0, n1, n2, n3, r0, r1, r2, r3, hlm, hlq, hlr⟩ := HBXZ.out.below HB10.out
      clear hb10 x0 x1 x2 x3 y0 y1 y2 y3 hxl hyl
      go_wp2_with fail
      refine (RC.out w10 (below3 HBVZ.out HBVZ.out.size HB10.out)).mono ?_
      rintro e w11 ⟨lb, lo, Lc, rfl, ⟨hL1, hL2⟩, hlb, hlc, hb11⟩
      unfold maxLen at hL2
      have hL1I : (zs.length : Int) ≤ Lc := by omega
      have hL2I : (Lc : Int) ≤ 9223372036854775807 := by omega
      have HLC := Lib.hid hlc
      have HBZ11 := Lib.hid (below3 HB10.out HB10.out.size hb11)
      have HB11 := Lib.hid (HBV.out.trans ((below3 HBVZ.out HBVZ.out.size HBZ11.out).mono hlwv))
      have hd11 : d1 < w11.heap.size := Nat.lt_of_lt_of_le hd1 HBZ11.out.size
      clear hlc hb11 m0 m1 m2 n0 n1 n2 n3 r0 r1 r2 r3 hlm hlq hlr
      go_wp2_with fail
      go_loopw [27] (fun i wr => LoopRel w11 zs.length i wr) (fun i _ => zs.length - (intOf i).toNat)
      case atStart => exact ⟨0, rfl, Nat.zero_le _, Below.refl _ _⟩
      case round =>
        obtain ⟨j, rfl, hj, hB⟩ := hrel
        have HB := Lib.hid hB
        have hBW := Lib.hid (show Below w.heap.size w wr from HB11.out.trans (hB.mono (by have := HB11.out.size; omega)))
        by_cases hjl : j < zs.length
        · have hjl' : (j : Int) < zs.length := by omega
          obtain ⟨x, hx⟩ : ∃ x, (cellsOf (symsP a1))[j]? = some x := ⟨_, List.getElem?_eq_getElem (by have := HzsL.out; omega)⟩
          obtain ⟨y, hy⟩ : ∃ y, cs[j]? = some y := ⟨_, List.getElem?_eq_getElem (by have := HCSL.out; omega)⟩
          have q1 : wr.cell? ⟨lb, lo + j * 6 + 1, none⟩ = some (.int .i64 x.kind) := by
            have h := HLC.out (j * 6 + 1) _ ((flat_get cellCells 6 cellCells_length (cellsOf (symsP a1)) j 1 x hx (by omega)).trans rfl)
            rw [← Nat.add_assoc] at h
            exact (dcell hB hlb _).trans h
          have q2 : wr.cell? ⟨d1, j, none⟩ = some (.int .i64 y) := (dcell hB hd11 _).trans (own_at (own_bel HV1.out HBZ11.out) j y hy)
          have WR := Lib.hid (fun W => by have h := rwrap_any x.kind y W; rw [show wrapK x.kind y = y from (HCSK.out trivial).kind j x y hx hy] at h; exact h)
          generalize x.kind = kd at *
          clear hB hx hy
          go_wp2_with fail
          go_quiet ((go_at_call 26; exact Calls.quiet_of_same ((WR.out _).mono fun _ _ h => ⟨h.1, h.2.symm⟩)))
          go_wp2_with fail
          go_roundw
          case rel => exact ⟨j + 1, rfl, by omega, by repeat (first | (with_reducible exact HB.out) | (with_reducible refine below_drewM ?_ _) | (with_reducible refine Below.drew ?_))⟩
          case measure => simp [intOf]; omega
        · have hje : j = zs.length := by omega
          subst hje
          clear hB
          go_wp2_with fail
          go_ret
          exact ⟨rfl, hBW.out⟩
    · subst hx
      rw [if_neg (by decide)] at hok
      subst hok
      have hv1 : v1 = .slice none 0 0 := HVPZ1.out
      have hv2 : v2 = .slice none 0 0 := HVPZ2.out
      subst hv1 hv2
      have IN1 := Lib.hid (ints_nil wz)
      with_reducible refine IN1.out.mono ?_
      rintro e w9 ⟨rfl, hb9⟩
      obtain ⟨x0, x1, x2, x3, hxl⟩ := HD1Z.out.below hb9
      obtain ⟨y0, y1, y2, y3, hyl⟩ := HD2Z.out.below hb9
      have HB9 := Lib.hid hb9
      clear hb9
      go_wp2_with fail
      with_reducible refine (IN2.out w9 HB9.out).mono ?_
      rintro e w10 ⟨rfl, hb10⟩
      have HB10 := Lib.hid (below3 HB9.out HB9.out.size hb10)
      obtain ⟨m0, m1, m2, n0, n1, n2, n3, r0, r1, r2, r3, hlm, hlq, hlr⟩ := HBXZ.out.below HB10.out
      clear hb10 x0 x1 x2 x3 y0 y1 y2 y3 hxl hyl
      go_wp2_with fail
      refine (RC.out w10 (below3 HBVZ.out HBVZ.out.size HB10.out)).mono ?_
      rintro e w11 ⟨lb, lo, Lc, rfl, ⟨hL1, hL2⟩, hlb, hlc, hb11⟩
      unfold maxLen at hL2
      have hL1I : (zs.length : Int) ≤ Lc := by omega
      have hL2I : (Lc : Int) ≤ 9223372036854775807 := by omega
      have HLC := Lib.hid hlc
      have HBZ11 := Lib.hid (below3 HB10.out HB10.out.size hb11)
      have HB11 := Lib.hid (HBV.out.trans ((below3 HBVZ.out HBVZ.out.size HBZ11.out).mono hlwv))
      clear hlc hb11 m0 m1 m2 n0 n1 n2 n3 r0 r1 r2 r3 hlm hlq hlr
      go_wp2_with fail
      go_loopw [27] (fun i wr => i = .int .i64 0 ∧ wr = w11) (fun _ _ => 0)
      case atStart => exact ⟨rfl, rfl⟩
      case round =>
        obtain ⟨rfl, rfl⟩ := hrel
        go_wp2_with fail
        go_ret
        exact ⟨rfl, HB11.out⟩
    · subst hx
      rw [if_neg (by decide)] at hok
      subst hok
      have hv1 : v1 = .slice none 0 0 := HVPZ1.out
      have hv2 : v2 = .slice none 0 0 := HVPZ2.out
      subst hv1 hv2
      have IN1 := Lib.hid (ints_nil wz)
      with_reducible refine IN1.out.mono ?_
      rintro e w9 ⟨rfl, hb9⟩
      obtain ⟨x0, x1, x2, x3, hxl⟩ := HD1Z.out.below hb9
      obtain ⟨y0, y1, y2, y3, hyl⟩ := HD2Z.out.below hb9
      have HB9 := Lib.hid hb9
      clear hb9
      go_wp2_with fail
      with_reducible refine (IN2.out w9 HB9.out).mono ?_
      rintro e w10 ⟨rfl, hb10⟩
      have HB10 := Lib.hid (below3 HB9.out HB9.out.size hb10)
      obtain ⟨m0, m1, m2, n0, n1, n2, n3, r0, r1, r2, r3, hlm, hlq, hlr⟩ := HBXZ.out.below HB10.out
      clear hb10 x0 x1 x2 x3 y0 y1 y2 y3 hxl hyl
      go_wp2_with fail
      refine (RC.out w10 (below3 HBVZ.out HBVZ.out.size HB10.out)).mono ?_
      rintro e w11 ⟨lb, lo, Lc, rfl, ⟨hL1, hL2⟩, hlb, hlc, hb11⟩
      unfold maxLen at hL2
      have hL1I : (zs.length : Int) ≤ Lc := by omega
      have hL2I : (Lc : Int) ≤ 9223372036854775807 := by omega
      have HLC := Lib.hid hlc
      have HBZ11 := Lib.hid (below3 HB10.out HB10.out.size hb11)
      have HB11 := Lib.hid (HBV.out.trans ((below3 HBVZ.out HBVZ.out.size HBZ11.out).mono hlwv))
      clear hlc hb11 m0 m1 m2 n0 n1 n2 n3 r0 r1 r2 r3 hlm hlq hlr
      go_wp2_with fail
      go_loopw [27] (fun i wr => i = .int .i64 0 ∧ wr = w11) (fun _ _ => 0)
      case atStart => exact ⟨rfl, rfl⟩
      case round =>
        obtain ⟨rfl, rfl⟩ := hrel
        go_wp2_with fail
        go_ret
        exact ⟨rfl, HB11.out⟩
    · subst hx
      rw [if_neg (by decide)] at hok
      subst hok
      have hv1 : v1 = .slice none 0 0 := HVPZ1.out
      have hv2 : v2 = .slice none 0 0 := HVPZ2.out
      subst hv1 hv2
      have IN1 := Lib.hid (ints_nil wz)
      with_reducible refine IN1.out.mono ?_
      rintro e w9 ⟨rfl, hb9⟩
      obtain ⟨x0, x1, x2, x3, hxl⟩ := HD1Z.out.below hb9
      obtain ⟨y0, y1, y2, y3, hyl⟩ := HD2Z.out.below hb9
      have HB9 := Lib.hid hb9
      clear hb9
      go_wp2_with fail
      with_reducible refine (IN2.out w9 HB9.out).mono ?_
      rintro e w10 ⟨rfl, hb10⟩
      have HB10 := Lib.hid (below3 HB9.out HB9.out.size hb10)
      obtain ⟨m0, m1, m2, n0, n1, n2, n3, r0, r1, r2, r3, hlm, hlq, hlr⟩ := HBXZ.out.below HB10.out
      clear hb10 x0 x1 x2 x3 y0 y1 y2 y3 hxl hyl
      go_wp2_with fail
      refine (RC.out w10 (below3 HBVZ.out HBVZ.out.size HB10.out)).mono ?_
      rintro e w11 ⟨lb, lo, Lc, rfl, ⟨hL1, hL2⟩, hlb, hlc, hb11⟩
      unfold maxLen at hL2
      have hL1I : (zs.length : Int) ≤ Lc := by omega
      have hL2I : (Lc : Int) ≤ 9223372036854775807 := by omega
      have HLC := Lib.hid hlc
      have HBZ11 := Lib.hid (below3 HB10.out HB10.out.size hb11)
      have HB11 := Lib.hid (HBV.out.trans ((below3 HBVZ.out HBVZ.out.size HBZ11.out).mono hlwv))
      clear hlc hb11 m0 m1 m2 n0 n1 n2 n3 r0 r1 r2 r3 hlm hlq hlr
      go_wp2_with fail
      go_loopw [27] (fun i wr => i = .int .i64 0 ∧ wr = w11) (fun _ _ => 0)
      case atStart => exact ⟨rfl, rfl⟩
      case round =>
        obtain ⟨rfl, rfl⟩ := hrel
        go_wp2_with fail
        go_ret
        exact ⟨rfl, HB11.out⟩
  · have FA := Lib.hid (fun W => by have h := few12_any A0 len0 cap0 W (by omega); rw [decide_eq_false hfa0] at h; exact h)
    clear c0 w0 c2 wx2
    go_enter Tryd.func3, Tryd.ntmps3
    go_wp2_with (first | (go_at_call 17; refine (KN.out _).mono ?_; rintro e w1 ⟨rfl, hb1⟩; have HB1 := Lib.hid (show Below w.heap.size w w1 from (((Below.refl _ w).alloc (Nat.le_refl _) _).alloc (by simp) _).trans (hb1.mono (by simp; omega))); have HQ1 := Lib.hid (box_new44 hb1); have hz1 := hb1.size; (try simp at hz1); clear hb1) | (go_at_call 18; (with_reducible refine (FA.out _).mono ?_); rintro e _ ⟨rfl, rfl⟩))
    go_ret
    exact ⟨rfl, HB1.out⟩
end Go.Proofs.YtngobbbinacomaaDoor
