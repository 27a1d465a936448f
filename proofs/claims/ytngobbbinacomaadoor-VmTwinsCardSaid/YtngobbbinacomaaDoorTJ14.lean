/- Chapter 14: VmTwins, walked. -/
import Derived.Test.YtngobbbinacomaaDoorTH14
import Derived.Test.YtngobbbinacomaaDoorTI14
namespace Go.Proofs.YtngobbbinacomaaDoor
open Go.RowKit Go.Proofs.YtngobbbinacomaaDoor.c11 Go.Proofs.YtngobbbinacomaaDoor.c10 Go.Proofs.YtngobbbinacomaaDoor.c13
set_option linter.unusedVariables false
set_option linter.unusedSimpArgs false
attribute [local go_sem ↓] Go.wp_at_zero Go.wp_at_succ

theorem below_drewM {B : Nat} {a w : World} (h : Below B a w) (n : Nat) : Below B a (w.drewN n) := h.trans ⟨rfl, rfl, rfl, Nat.le_refl _, fun _ _ => rfl⟩
set_option maxHeartbeats 4000000 in
set_option maxRecDepth 100000 in
theorem ints_same (a b c d n : Nat) (xs : List Int) (w : World) (ha : a < w.heap.size) (hb : b < w.heap.size) (hl : xs.length = n) (hn : (n : Int) ≤ c ∧ (n : Int) ≤ d) (hc : (c : Int) ≤ 9223372036854775807 ∧ (d : Int) ≤ 9223372036854775807)
    (h1 : ∀ (j : Nat) x, xs[j]? = some x → w.cell? ⟨a, j, none⟩ = some (.int .i64 x)) (h2 : ∀ (j : Nat) x, xs[j]? = some x → w.cell? ⟨b, j, none⟩ = some (.int .i64 x)) :
    Calls Tryd.prog 24 #[.slice (some ⟨a, 0, none⟩) n c, .slice (some ⟨b, 0, none⟩) n d] w fun e w' => e = .returned (.bool true) ∧ Below w.heap.size w w' := by
  have H1 := Lib.hid h1
  have H2 := Lib.hid h2
  obtain ⟨hn1, hn2⟩ := hn
  obtain ⟨hc1, hc2⟩ := hc
  clear h1 h2
  go_enter Tryd.func24, Tryd.ntmps24
  go_wp2_with fail
  go_loopw [5] (fun i wr => LoopRel w n i wr) (fun i _ => n - (intOf i).toNat)
  case atStart => exact ⟨0, rfl, Nat.zero_le _, Below.refl _ _⟩
  case round =>
    obtain ⟨j, rfl, hj, hB⟩ := hrel
    have HB := Lib.hid hB
    by_cases hjl : j < n
    · have hjl' : (j : Int) < n := by omega
      obtain ⟨x, hx⟩ : ∃ x, xs[j]? = some x := ⟨_, List.getElem?_eq_getElem (by omega)⟩
      have p1 : wr.cell? ⟨a, j, none⟩ = some (.int .i64 x) := (dcell hB ha j).trans (H1.out j x hx)
      have p2 : wr.cell? ⟨b, j, none⟩ = some (.int .i64 x) := (dcell hB hb j).trans (H2.out j x hx)
      clear hB hx
      go_wp2_with fail
      go_quiet (fail)
      go_wp2_with fail
      go_roundw
      case rel => exact ⟨j + 1, rfl, by omega, by repeat (first | (with_reducible exact HB.out) | (with_reducible refine below_drewM ?_ _) | (with_reducible refine Below.drew ?_))⟩
      case measure => simp [intOf]; omega
    · have hje : j = n := by omega
      subst hje
      clear hB
      go_wp2_with fail
      go_ret
      exact ⟨rfl, HB.out⟩
theorem own_at {w : World} {base : Nat} {e : TypeId} {g n cap : Nat} {l : List Int} (h : w.ownsRow base e 1 (.slice (some ⟨g, 0, none⟩) n cap) n (l.map (Value.int .i64))) (j : Nat) (x : Int) (hx : l[j]? = some x) : w.cell? ⟨g, j, none⟩ = some (.int .i64 x) := by
  have hj : j < n * 1 := by have h1 := (List.getElem?_eq_some_iff.1 hx).1; have h2 := h.1; simp at h2; omega
  rw [h.cellAt j hj, List.getElem?_map, hx]
  rfl

theorem ints_nil (w : World) : Calls Tryd.prog 24 #[.slice none 0 0, .slice none 0 0] w fun e w' => e = .returned (.bool true) ∧ Below w.heap.size w w' := by
  go_enter Tryd.func24, Tryd.ntmps24
  go_wp2_with fail
  go_loopw [5] (fun i wr => i = .int .i64 0 ∧ wr = w) (fun _ _ => 0)
  case atStart => exact ⟨rfl, rfl⟩
  case round =>
    obtain ⟨rfl, rfl⟩ := hrel
    go_wp2
    go_ret
    exact ⟨rfl, Below.refl _ _⟩

/-- What a run leaves as cells: a row, or none. -/
def VP (ok : Option (List Int)) (v : Value) (W : World) : Prop := match ok with
  | some cs => W.ownsRow 0 3 1 v cs.length (cs.map (Value.int .i64))
  | none => v = .slice none 0 0
theorem VP.below {ok : Option (List Int)} {v : Value} {W W' : World} (h : VP ok v W) (hb : Below W.heap.size W W') : VP ok v W' := by
  cases ok with
  | none => exact h
  | some cs => exact own_bel h hb
theorem VP.alloc {ok : Option (List Int)} {v : Value} {W : World} (h : VP ok v W) (o : Obj) : VP ok v (W.alloc o) := h.below (alloc_bel W o)
theorem VP.drew {ok : Option (List Int)} {v : Value} {W : World} (h : VP ok v W) : VP ok v W.drew := by
  cases ok with
  | none => exact h
  | some cs => exact own_dr h
theorem VP.far {ok : Option (List Int)} {v : Value} {W : World} (h : VP ok v W) {a : Addr} (ha : v.ownBlock ≠ some a.block) (u : Value) : VP ok v (W.setCell a u) := by
  cases ok with
  | none => exact h
  | some cs => exact own_setFar h ha u
/-- A run's answer, told by letters. -/
def RunPost (ok : Option (List Int)) (P0 P1 P2 P3 U X : Int) (u : World) (e : Ending) (w' : World) : Prop :=
  Below u.heap.size u w' ∧ ∃ v, e = .returned (.tuple #[v, .agg #[.int .i64 P0, .int .i64 P1, .int .i64 P2, .int .i64 P3], .int .i64 U, .int .i64 X]) ∧ VP ok v w' ∧ ∀ b, b < u.heap.size ∨ w'.heap.size ≤ b → v.ownBlock ≠ some b
/-- The letters of a run. -/
def okOf (R : St × Int) : Option (List Int) := if R.2 = 0 then some R.1.cells else none
def outOf (R : St × Int) (x : Int) : Int := if R.2 = 0 then x else 0
theorem post_of {R : St × Int} {u w' : World} {e : Ending} (h : Below u.heap.size u w' ∧ ∃ v o0 o1 o2 o3, e = .returned (.tuple #[v, .agg #[.int .i64 o0, .int .i64 o1, .int .i64 o2, .int .i64 o3], .int .i64 (R.1.used : Nat), .int .i64 R.2]) ∧
    ((R.2 = 0 ∧ o0 = R.1.o0 ∧ o1 = R.1.o1 ∧ o2 = R.1.o2 ∧ o3 = R.1.o3 ∧ w'.ownsRow u.heap.size 3 1 v R.1.cells.length (R.1.cells.map (Value.int .i64))) ∨ (R.2 ≠ 0 ∧ v = .slice none 0 0 ∧ o0 = 0 ∧ o1 = 0 ∧ o2 = 0 ∧ o3 = 0))) :
    RunPost (okOf R) (outOf R R.1.o0) (outOf R R.1.o1) (outOf R R.1.o2) (outOf R R.1.o3) (R.1.used : Nat) R.2 u e w' := by
  obtain ⟨hb, v, o0, o1, o2, o3, he, h⟩ := h
  rcases h with ⟨h0, rfl, rfl, rfl, rfl, hv⟩ | ⟨h0, rfl, rfl, rfl, rfl, rfl⟩
  · refine ⟨hb, v, ?_, ?_, fun b hbb e => ?_⟩
    · rw [he]; simp [outOf, h0]
    · unfold okOf; rw [if_pos h0]; exact own_mono8 hv (Nat.zero_le _)
    · have := hv.lt b e; omega
  · refine ⟨hb, .slice none 0 0, ?_, ?_, fun b _ e => by simp [Value.ownBlock] at e⟩
    · rw [he]; simp [outOf, h0]
    · unfold okOf; rw [if_neg h0]; rfl

theorem cell_lt {w : World} {g o : Nat} {v : Value} (h : w.cell? ⟨g, o, none⟩ = some v) : g < w.heap.size := by
  rcases Nat.lt_or_ge g w.heap.size with h1 | h1
  · exact h1
  · rw [World.cell?] at h; simp [Array.getElem?_eq_none h1] at h

set_option maxHeartbeats 8000000 in
set_option maxRecDepth 100000 in
theorem vmTwins_walk (A0 : Option Addr) (len0 cap0 : Nat) (z0 : Nat → Int) (A1 : Option Addr) (len1 cap1 : Nat) (z1 : Nat → Int) (A2 : Option Addr) (len2 cap2 : Nat) (z2 : Nat → Int) (i0 i1 i2 i3 : Int) (a4 : Int) (w : World) (c0 : Came w A0 len0 cap0 fun j => .int .i64 (z0 j)) (w0 : ∀ j, j < len0 → I64 (z0 j)) (c1 : Came w A1 len1 cap1 fun j => .int .i64 (z1 j)) (wx1 : ∀ j, j < len1 → I64 (z1 j)) (c2 : Came w A2 len2 cap2 fun j => .int .i64 (z2 j)) (wx2 : ∀ j, j < len2 → I64 (z2 j)) (w30 : I64 i0) (w31 : I64 i1) (w32 : I64 i2) (w33 : I64 i3) (w40 : I64 a4) :
    Calls Tryd.prog 8 #[.slice A0 len0 cap0, .slice A1 len1 cap1, .slice A2 len2 cap2, .agg #[.int .i64 i0, .int .i64 i1, .int .i64 i2, .int .i64 i3], .int .i64 a4] w fun e w' => e = .returned (.bool true) ∧ Below w.heap.size w w' := by
  have KN := Lib.hid (fun W => known14_any W)
  have hcap := c0.max
  have hle := c0.le
  have hcap1 := c1.max
  have hle1 := c1.le
  obtain ⟨q5, hq5⟩ : ∃ q, a4 % 1099511627777 = q := ⟨_, rfl⟩
  have W5 := Lib.hid (fun W => show Calls Tryd.prog 21 #[.int .i64 a4, .int .i64 1099511627777] W (fun e w' => e = .returned (.int .i64 q5) ∧ W = w') from by have h := within14_any a4 1099511627777 (by decide) (by decide) W; rw [hq5] at h; exact h)
  clear hq5
  by_cases hfa0 : len0 ≤ 80
  · have FA := Lib.hid (fun W => by have h := few12_any A0 len0 cap0 W (by omega); rw [decide_eq_true hfa0] at h; exact h)
    by_cases hfb0 : len1 ≤ 80
    · have FB := Lib.hid (fun W => by have h := few12_any A1 len1 cap1 W (by omega); rw [decide_eq_true hfb0] at h; exact h)
      have SD0 := Lib.hid (fun u (hu : Below w.heap.size w u) => sound_any true A0 len0 cap0 z0 u (c0.belowC hu) w0 hfa0)
      have SD' := Lib.hid (fun u (hu : Below w.heap.size w u) => sound_any false A1 len1 cap1 z1 u (c1.belowC hu) wx1 hfb0)
      have HNW := Lib.hid (fun u (hu : Below w.heap.size w u) => c2.belowC hu)
      clear c0 w0 c1 wx1 c2
      go_enter Tryd.func8, Tryd.ntmps8
      go_wp2_with (first | (go_at_call 17; refine (KN.out _).mono ?_; rintro e w1 ⟨rfl, hb1⟩; have HB1 := Lib.hid (show Below w.heap.size w w1 from ((Below.refl _ w).alloc (Nat.le_refl _) _).trans (hb1.mono (by simp))); obtain ⟨o0, o1, o2, o3, -, -, -, -⟩ := box_new4 hb1; have hz1 := hb1.size; (try simp at hz1); clear hb1) | (go_at_call 18; first | (with_reducible refine (FA.out _).mono ?_; rintro e _ ⟨rfl, rfl⟩) | (with_reducible refine (FB.out _).mono ?_; rintro e _ ⟨rfl, rfl⟩)) | (go_at_call 21; (with_reducible refine (W5.out _).mono ?_); rintro e _ ⟨rfl, rfl⟩))
      refine (SD0.out _ HB1.out).mono ?_
      rintro e w2 ⟨⟨sb, cb, f, fc, nf, codes, vs, rfl, hsy, hko, hfa, hfc1, hfc2, hcl, hnf, hmd⟩, hbw2⟩
      have hz2 := hbw2.size
      have HB2 := Lib.hid (HB1.out.trans (hbw2.mono (by omega)))
      go_wp2_with fail
      refine (SD'.out _ HB2.out).mono ?_
      rintro e w3 ⟨⟨sb', cb', f', fc', nf', codes', vs', rfl, hsy', hko', hfa', hfc1', hfc2', hcl', hnf', hmd'⟩, hbw3⟩
      have hz3 := hbw3.size
      have HB3 := Lib.hid (HB2.out.trans (hbw3.mono (by omega)))
      have h13 : Below w1.heap.size w1 w3 := hbw2.trans (hbw3.mono hz2)
      have p0 := (dcell h13 (show w.heap.size < w1.heap.size by omega) 0).trans o0
      have p1 := (dcell h13 (show w.heap.size < w1.heap.size by omega) 1).trans o1
      have p2 := (dcell h13 (show w.heap.size < w1.heap.size by omega) 2).trans o2
      have p3 := (dcell h13 (show w.heap.size < w1.heap.size by omega) 3).trans o3
      have hwl : w.heap.size < w3.heap.size := by omega
      obtain ⟨zs, hzs⟩ : ∃ l, l = envN (cellsOf (symsP true)) len2 z2 := ⟨_, rfl⟩
      have hzl : zs.length = (cellsOf (symsP true)).length := by rw [hzs, envN_len]
      have hzs0 : zs.length ≤ 200 ∧ 0 < zs.length := by have := symsP_cells true; omega
      obtain ⟨zx, hzx⟩ : ∃ l, l = envN (cellsOf (symsP false)) len2 z2 := ⟨_, rfl⟩
      have hzxl : zx.length = (cellsOf (symsP false)).length := by rw [hzx, envN_len]
      have hzx0 : zx.length ≤ 200 ∧ 0 < zx.length := by have := symsP_cells false; omega
      have Hzs := Lib.hid hzs
      have HzsL := Lib.hid hzl
      have Hzx := Lib.hid hzx
      have HzxL := Lib.hid hzxl
      go_wp2_with fail
      obtain ⟨wv, hwv⟩ : ∃ x : World, x = (w3.alloc (.cells #[.slice (some ⟨sb, 0, none⟩) 7 7, .slice (some ⟨cb, 0, none⟩) 2 2, .slice (some ⟨f, 0, none⟩) (nf + 1) fc] 29)).alloc (.cells #[.slice (some ⟨sb', 0, none⟩) 7 7, .slice (some ⟨cb', 0, none⟩) 2 2, .slice (some ⟨f', 0, none⟩) (nf' + 1) fc'] 29) := ⟨_, rfl⟩
      have hbv : Below w3.heap.size w3 wv := by rw [hwv]; exact ((Below.refl _ _).alloc (Nat.le_refl _) _).alloc (by simp) _
      have hzv : wv.heap.size = w3.heap.size + 2 := by rw [hwv]; simp
      have m0 : wv.cell? ⟨w3.heap.size, 0, none⟩ = some (.slice (some ⟨sb, 0, none⟩) 7 7) := by rw [hwv]; go_simp
      have m1 : wv.cell? ⟨w3.heap.size, 1, none⟩ = some (.slice (some ⟨cb, 0, none⟩) 2 2) := by rw [hwv]; go_simp
      have m2 : wv.cell? ⟨w3.heap.size, 2, none⟩ = some (.slice (some ⟨f, 0, none⟩) (nf + 1) fc) := by rw [hwv]; go_simp
      have k0 : wv.cell? ⟨w3.heap.size + 1, 0, none⟩ = some (.slice (some ⟨sb', 0, none⟩) 7 7) := by rw [hwv]; go_simp
      have k1 : wv.cell? ⟨w3.heap.size + 1, 1, none⟩ = some (.slice (some ⟨cb', 0, none⟩) 2 2) := by rw [hwv]; go_simp
      have k2 : wv.cell? ⟨w3.heap.size + 1, 2, none⟩ = some (.slice (some ⟨f', 0, none⟩) (nf' + 1) fc') := by rw [hwv]; go_simp
      have n0 := (dcell hbv hwl 0).trans p0
      have n1 := (dcell hbv hwl 1).trans p1
      have n2 := (dcell hbv hwl 2).trans p2
      have n3 := (dcell hbv hwl 3).trans p3
      have hlm : w3.heap.size < wv.heap.size := by omega
      have hlx : w3.heap.size + 1 < wv.heap.size := by omega
      have hlw : w.heap.size < wv.heap.size := by omega
      have hlwv := hlw
      have hvk : wv.heap.size ≤ wv.heap.size := Nat.le_refl _
      have HBK := Lib.hid (Below.refl wv.heap.size wv)
      have HBV := Lib.hid (show Below w.heap.size w wv from HB3.out.trans (hbv.mono (by omega)))
      have HN2 := Lib.hid (HNW.out wv HBV.out)
      have h2v : Below w2.heap.size w2 wv := hbw3.trans (hbv.mono hz3)
      have HSY := Lib.hid ((hsy.below h2v).moreS h2v.size)
      have HKO := Lib.hid ((hko.below h2v).more h2v.size)
      have HFA := Lib.hid (hfa.below h2v)
      have HFC := Lib.hid (And.intro hfc1 hfc2)
      have HCL := Lib.hid hcl
      have HNF := Lib.hid hnf
      have HMD := Lib.hid hmd
      have HSY' := Lib.hid ((hsy'.below hbv).moreS hbv.size)
      have HKO' := Lib.hid ((hko'.below hbv).more hbv.size)
      have HFA' := Lib.hid (hfa'.below hbv)
      have HFC' := Lib.hid (And.intro hfc1' hfc2')
      have HCL' := Lib.hid hcl'
      have HNF' := Lib.hid hnf'
      have HMD' := Lib.hid hmd'
      have LC := Lib.hid (fun u (hu : Below wv.heap.size wv u) => (lcellsN_any (some ⟨sb, 0, none⟩) 7 7 (symsP true) (some ⟨cb, 0, none⟩) (some ⟨f, 0, none⟩) 2 2 (nf + 1) fc A2 len2 cap2 z2 u ((HSY.out.below hu).moreS hu.size) (by decide) (by decide) (by decide) (symsP_size true) (symsP_cells true).1 ((HN2.out).belowC hu)).mono (fun e w' (h : ∃ v, e = .returned v ∧ w'.ownsRow u.heap.size 3 1 v (cellsOf (symsP true)).length ((envN (cellsOf (symsP true)) len2 z2).map (Value.int .i64)) ∧ Below u.heap.size u w') => show (∃ ww wcp, e = .returned (.slice (some ⟨ww, 0, none⟩) zs.length wcp) ∧ zs.length ≤ wcp ∧ w'.ownsRow u.heap.size 3 1 (.slice (some ⟨ww, 0, none⟩) zs.length wcp) zs.length (zs.map (Value.int .i64))) ∧ Below u.heap.size u w' from by
        obtain ⟨v, h1, h2, h3⟩ := h
        rw [← Hzs.out, ← HzsL.out] at h2
        obtain ⟨g, cap, rfl, _, _⟩ := h2.form hzs0.2
        obtain ⟨_, cap', e1, e2, _⟩ := own_slice h2
        obtain rfl : cap = cap' := by injection e1
        exact ⟨⟨g, cap, h1, e2, h2⟩, h3⟩))
      have RC0 := fun (u : World) (hu : Below wv.heap.size wv u) (ww wcp base : Nat) (ho : u.ownsRow base 3 1 (.slice (some ⟨ww, 0, none⟩) zs.length wcp) zs.length (zs.map (Value.int .i64))) (hc : zs.length ≤ wcp) => (sound_run true (sb := sb) (cb := cb) (f := f) (fc := fc) (nf := nf) (codes := codes) (vs := vs) (u := u) ((HSY.out.below hu).moreS hu.size) ((HKO.out.below hu).more hu.size) (HFA.out.below hu) ⟨HFC.out.1, HFC.out.2⟩ HCL.out HNF.out HMD.out i0 i1 i2 i3 q5 (some ⟨ww, 0, none⟩) zs.length wcp zs (Row.of_own ho) (by omega) hc 200 (by decide)).mono fun e w' h => post_of (R := (ranP (envS true sb cb f fc codes vs i0 i1 i2 i3 q5) zs 200)) h
      rw [HCL.out] at RC0
      have hpos := execP_cells (envS true sb cb f fc codes vs i0 i1 i2 i3 q5) 201 ((envS true sb cb f fc codes vs i0 i1 i2 i3 q5).funcs.getD 0 []) 0 ⟨zs, 0, 0, 0, 0, 200, 0, []⟩
      have hpos' : (ranP (envS true sb cb f fc codes vs i0 i1 i2 i3 q5) zs 200).1.cells.length = zs.length := hpos
      generalize ranP (envS true sb cb f fc codes vs i0 i1 i2 i3 q5) zs 200 = R at *
      have hok : ∀ cs, okOf R = some cs → cs.length = zs.length := fun cs h => by
        unfold okOf at h
        split at h
        · injection h with h; rw [← h]; exact hpos'
        · cases h
      have HOK := Lib.hid hok
      generalize okOf R = ok at *
      generalize outOf R R.1.o0 = P0 at *
      generalize outOf R R.1.o1 = P1 at *
      generalize outOf R R.1.o2 = P2 at *
      generalize outOf R R.1.o3 = P3 at *
      generalize R.2 = X at *
      generalize ((R.1.used : Nat) : Int) = U at *
      have RC := Lib.hid RC0
      have LX := Lib.hid (fun u (hu : Below wv.heap.size wv u) => (lcellsN_any (some ⟨sb', 0, none⟩) 7 7 (symsP false) (some ⟨cb', 0, none⟩) (some ⟨f', 0, none⟩) 2 2 (nf' + 1) fc' A2 len2 cap2 z2 u ((HSY'.out.below hu).moreS hu.size) (by decide) (by decide) (by decide) (symsP_size false) (symsP_cells false).1 ((HN2.out).belowC hu)).mono (fun e w' (h : ∃ v, e = .returned v ∧ w'.ownsRow u.heap.size 3 1 v (cellsOf (symsP false)).length ((envN (cellsOf (symsP false)) len2 z2).map (Value.int .i64)) ∧ Below u.heap.size u w') => show (∃ ww wcp, e = .returned (.slice (some ⟨ww, 0, none⟩) zx.length wcp) ∧ zx.length ≤ wcp ∧ w'.ownsRow u.heap.size 3 1 (.slice (some ⟨ww, 0, none⟩) zx.length wcp) zx.length (zx.map (Value.int .i64))) ∧ Below u.heap.size u w' from by
        obtain ⟨v, h1, h2, h3⟩ := h
        rw [← Hzx.out, ← HzxL.out] at h2
        obtain ⟨g, cap, rfl, _, _⟩ := h2.form hzx0.2
        obtain ⟨_, cap', e1, e2, _⟩ := own_slice h2
        obtain rfl : cap = cap' := by injection e1
        exact ⟨⟨g, cap, h1, e2, h2⟩, h3⟩))
      have RX0 := fun (u : World) (hu : Below wv.heap.size wv u) (ww wcp base : Nat) (ho : u.ownsRow base 3 1 (.slice (some ⟨ww, 0, none⟩) zx.length wcp) zx.length (zx.map (Value.int .i64))) (hc : zx.length ≤ wcp) => (sound_run false (sb := sb') (cb := cb') (f := f') (fc := fc') (nf := nf') (codes := codes') (vs := vs') (u := u) ((HSY'.out.below hu).moreS hu.size) ((HKO'.out.below hu).more hu.size) (HFA'.out.below hu) ⟨HFC'.out.1, HFC'.out.2⟩ HCL'.out HNF'.out HMD'.out i0 i1 i2 i3 q5 (some ⟨ww, 0, none⟩) zx.length wcp zx (Row.of_own ho) (by omega) hc 200 (by decide)).mono fun e w' h => post_of (R := (ranP (envS false sb' cb' f' fc' codes' vs' i0 i1 i2 i3 q5) zx 200)) h
      rw [HCL'.out] at RX0
      generalize ranP (envS false sb' cb' f' fc' codes' vs' i0 i1 i2 i3 q5) zx 200 = R' at *
      have RX := Lib.hid RX0
      rw [← hwv]
      clear hwv hbv h2v h13 hbw2 hbw3 hz2 hz3 p0 p1 p2 p3 o0 o1 o2 o3 RC0 RX0 hpos hpos' hok hzs hzl hzx hzxl hzv hsy hko hfa hfc1 hfc2 hcl hnf hmd hsy' hko' hfa' hfc1' hfc2' hcl' hnf' hmd' hz1
      go_cut [13, 14, 15, 16] (fun c13 c14 c15 c16 wx => ∃ (v : Value) (g : Nat), c13 = v ∧ c14 = .pointer (some ⟨g, 0, none⟩) ∧ c15 = .int .i64 U ∧ c16 = .int .i64 X ∧ (wx.cell? ⟨g, 0, none⟩ = some (.int .i64 P0) ∧ wx.cell? ⟨g, 1, none⟩ = some (.int .i64 P1) ∧ wx.cell? ⟨g, 2, none⟩ = some (.int .i64 P2) ∧ wx.cell? ⟨g, 3, none⟩ = some (.int .i64 P3)) ∧ Below wv.heap.size wv wx ∧ VP ok v wx)
      case first =>
        go_region_held3 (fun w' => (w'.cell? ⟨w3.heap.size, 0, none⟩ = some (.slice (some ⟨sb, 0, none⟩) 7 7) ∧ w'.cell? ⟨w3.heap.size, 1, none⟩ = some (.slice (some ⟨cb, 0, none⟩) 2 2) ∧ w'.cell? ⟨w3.heap.size, 2, none⟩ = some (.slice (some ⟨f, 0, none⟩) (nf + 1) fc)) ∧ w'.cell? ⟨w.heap.size, 0, none⟩ = some (.int .i64 i0) ∧ w'.cell? ⟨w.heap.size, 1, none⟩ = some (.int .i64 i1) ∧ w'.cell? ⟨w.heap.size, 2, none⟩ = some (.int .i64 i2) ∧ w'.cell? ⟨w.heap.size, 3, none⟩ = some (.int .i64 i3)) (first | exact keepRunC (u1 := wv) (by repeat (first | (with_reducible exact HB5.out) | (with_reducible exact HB4.out) | (with_reducible exact Below.refl _ _) | (with_reducible refine Below.setCell ?_ (by first | omega | (simp; done) | (simp; omega)) _) | (with_reducible refine Below.drew ?_) | (with_reducible refine Below.alloc ?_ (by first | omega | (simp; done) | (simp; omega)) _))) hlm hlw m0 m1 m2 n0 n1 n2 n3)
          (first
            | (go_at_call 20; refine (LC.out _ (HBK.out.trans (Below.mono (by repeat (first | (with_reducible exact HB5.out) | (with_reducible exact HB4.out) | (with_reducible exact Below.refl _ _) | (with_reducible refine Below.setCell ?_ (by first | omega | (simp; done) | (simp; omega)) _) | (with_reducible refine Below.drew ?_) | (with_reducible refine Below.alloc ?_ (by first | omega | (simp; done) | (simp; omega)) _))) hvk))).mono ?_; rintro e w4 ⟨⟨ww, wcp, rfl, hc1, ho4⟩, hb4⟩; have HO4 := Lib.hid ho4; have HB4 := Lib.hid (show Below wv.heap.size wv w4 from Below.trans (by repeat (first | (with_reducible exact HB5.out) | (with_reducible exact HB4.out) | (with_reducible exact Below.refl _ _) | (with_reducible refine Below.setCell ?_ (by first | omega | (simp; done) | (simp; omega)) _) | (with_reducible refine Below.drew ?_) | (with_reducible refine Below.alloc ?_ (by first | omega | (simp; done) | (simp; omega)) _))) (hb4.mono (by first | omega | (simp; done) | (simp; omega)))); have z4 := hb4.size; (try simp at z4); (try have p4 := dcell hb4 (b := wv.heap.size) (by first | omega | (simp; done) | (simp; omega))); (try have p4f := dfroz hb4 (b := wv.heap.size) (by first | omega | (simp; done) | (simp; omega))); clear ho4 hb4)
            | (go_at_call 22; refine (RC.out _ (HBK.out.trans (Below.mono (by repeat (first | (with_reducible exact HB5.out) | (with_reducible exact HB4.out) | (with_reducible exact Below.refl _ _) | (with_reducible refine Below.setCell ?_ (by first | omega | (simp; done) | (simp; omega)) _) | (with_reducible refine Below.drew ?_) | (with_reducible refine Below.alloc ?_ (by first | omega | (simp; done) | (simp; omega)) _))) hvk)) _ _ _ (by first | exact HO4.out | exact own_dr HO4.out | exact HO4.out.alloc _) hc1).mono ?_; rintro e w5 ⟨hb5, v5, rfl, hvp5, hfar⟩; have HVP5 := Lib.hid hvp5; have z5 := hb5.size; (try simp at z5); (try have y3 : v5.ownBlock ≠ some wv.heap.size := hfar _ (by first | omega | (simp; done) | (simp; omega))); (try have y4 : v5.ownBlock ≠ some w4.heap.size := hfar _ (by first | omega | (simp; done) | (simp; omega))); have y5 : v5.ownBlock ≠ some w5.heap.size := hfar _ (.inr (Nat.le_refl _)); have HB5 := Lib.hid (show Below wv.heap.size wv w5 from Below.trans (by repeat (first | (with_reducible exact HB5.out) | (with_reducible exact HB4.out) | (with_reducible exact Below.refl _ _) | (with_reducible refine Below.setCell ?_ (by first | omega | (simp; done) | (simp; omega)) _) | (with_reducible refine Below.drew ?_) | (with_reducible refine Below.alloc ?_ (by first | omega | (simp; done) | (simp; omega)) _))) (hb5.mono (by first | omega | (simp; done) | (simp; omega)))); (try have p5 := dcell hb5 (b := wv.heap.size) (by first | omega | (simp; done) | (simp; omega))); (try have p5f := dfroz hb5 (b := wv.heap.size) (by first | omega | (simp; done) | (simp; omega))); (try have p6 := dcell hb5 (b := w4.heap.size) (by first | omega | (simp; done) | (simp; omega))); (try have p6f := dfroz hb5 (b := w4.heap.size) (by first | omega | (simp; done) | (simp; omega))); clear hb5 hvp5 hfar))
        all_goals (try go_wp2_with fail)
        all_goals go_meet
        all_goals
          refine ⟨v5, _, rfl, rfl, rfl, rfl, ⟨by go_simp, by go_simp, by go_simp, by go_simp⟩, (by repeat (first | (with_reducible exact HB5.out) | (with_reducible exact Below.refl _ _) | (with_reducible refine Below.setCell ?_ (by first | omega | (simp; done) | (simp; omega)) _) | (with_reducible refine Below.drew ?_) | (with_reducible refine Below.alloc ?_ (by first | omega | (simp; done) | (simp; omega)) _))), ?_⟩
          repeat (first | (with_reducible exact HVP5.out) | (with_reducible refine VP.far ?_ (by assumption) _) | (with_reducible refine VP.alloc ?_ _) | (with_reducible refine VP.drew ?_))
      case rest =>
        obtain ⟨v1, g1, hv1, rfl, rfl, rfl, ⟨a0, a1, a2, a3⟩, hbx, hvp1⟩ := hcut
        have hv1' := hv1.symm
        subst hv1'
        obtain ⟨wk1, hnw⟩ : ∃ x : World, x = wc := ⟨_, rfl⟩
        subst hnw
        have hvk2 := hbx.size
        have HBK2 := Lib.hid (HBK.out.trans (hbx.mono hvk))
        replace m0 := (dcell hbx hlm 0).trans m0
        replace m1 := (dcell hbx hlm 1).trans m1
        replace m2 := (dcell hbx hlm 2).trans m2
        replace n0 := (dcell hbx hlw 0).trans n0
        replace n1 := (dcell hbx hlw 1).trans n1
        replace n2 := (dcell hbx hlw 2).trans n2
        replace n3 := (dcell hbx hlw 3).trans n3
        replace k0 := (dcell hbx hlx 0).trans k0
        replace k1 := (dcell hbx hlx 1).trans k1
        replace k2 := (dcell hbx hlx 2).trans k2
        replace hlx : w3.heap.size + 1 < wk1.heap.size := Nat.lt_of_lt_of_le hlx hvk2
        replace hlm : w3.heap.size < wk1.heap.size := Nat.lt_of_lt_of_le hlm hvk2
        replace hlw : w.heap.size < wk1.heap.size := Nat.lt_of_lt_of_le hlw hvk2
        replace hvk : wv.heap.size ≤ wk1.heap.size := Nat.le_trans hvk hvk2
        replace HBK := HBK2
        have HVP1 := Lib.hid hvp1
        have hg1 := cell_lt a0
        clear HBK2 hvk2 hbx hvp1
        go_wp2_with fail
        go_cut [15] (fun c15 wx => c15 = .int .i64 U ∧ Below wk1.heap.size wk1 wx)
        case first =>
          go_region_held3 (fun w' => (w'.cell? ⟨w3.heap.size + 1, 0, none⟩ = some (.slice (some ⟨sb', 0, none⟩) 7 7) ∧ w'.cell? ⟨w3.heap.size + 1, 1, none⟩ = some (.slice (some ⟨cb', 0, none⟩) 2 2) ∧ w'.cell? ⟨w3.heap.size + 1, 2, none⟩ = some (.slice (some ⟨f', 0, none⟩) (nf' + 1) fc')) ∧ w'.cell? ⟨w.heap.size, 0, none⟩ = some (.int .i64 i0) ∧ w'.cell? ⟨w.heap.size, 1, none⟩ = some (.int .i64 i1) ∧ w'.cell? ⟨w.heap.size, 2, none⟩ = some (.int .i64 i2) ∧ w'.cell? ⟨w.heap.size, 3, none⟩ = some (.int .i64 i3)) (first | exact keepRunC (u1 := wk1) (by repeat (first | (with_reducible exact HB5.out) | (with_reducible exact HB4.out) | (with_reducible exact Below.refl _ _) | (with_reducible refine Below.setCell ?_ (by first | omega | (simp; done) | (simp; omega)) _) | (with_reducible refine Below.drew ?_) | (with_reducible refine Below.alloc ?_ (by first | omega | (simp; done) | (simp; omega)) _))) hlx hlw k0 k1 k2 n0 n1 n2 n3)
            (first
              | (go_at_call 20; refine (LX.out _ (HBK.out.trans (Below.mono (by repeat (first | (with_reducible exact HB5.out) | (with_reducible exact HB4.out) | (with_reducible exact Below.refl _ _) | (with_reducible refine Below.setCell ?_ (by first | omega | (simp; done) | (simp; omega)) _) | (with_reducible refine Below.drew ?_) | (with_reducible refine Below.alloc ?_ (by first | omega | (simp; done) | (simp; omega)) _))) hvk))).mono ?_; rintro e w4 ⟨⟨ww, wcp, rfl, hc1, ho4⟩, hb4⟩; have HO4 := Lib.hid ho4; have HB4 := Lib.hid (show Below wk1.heap.size wk1 w4 from Below.trans (by repeat (first | (with_reducible exact HB5.out) | (with_reducible exact HB4.out) | (with_reducible exact Below.refl _ _) | (with_reducible refine Below.setCell ?_ (by first | omega | (simp; done) | (simp; omega)) _) | (with_reducible refine Below.drew ?_) | (with_reducible refine Below.alloc ?_ (by first | omega | (simp; done) | (simp; omega)) _))) (hb4.mono (by first | omega | (simp; done) | (simp; omega)))); have z4 := hb4.size; (try simp at z4); (try have p4 := dcell hb4 (b := wk1.heap.size) (by first | omega | (simp; done) | (simp; omega))); (try have p4f := dfroz hb4 (b := wk1.heap.size) (by first | omega | (simp; done) | (simp; omega))); clear ho4 hb4)
              | (go_at_call 22; refine (RX.out _ (HBK.out.trans (Below.mono (by repeat (first | (with_reducible exact HB5.out) | (with_reducible exact HB4.out) | (with_reducible exact Below.refl _ _) | (with_reducible refine Below.setCell ?_ (by first | omega | (simp; done) | (simp; omega)) _) | (with_reducible refine Below.drew ?_) | (with_reducible refine Below.alloc ?_ (by first | omega | (simp; done) | (simp; omega)) _))) hvk)) _ _ _ (by first | exact HO4.out | exact own_dr HO4.out | exact HO4.out.alloc _) hc1).mono ?_; rintro e w5 ⟨hb5, v5, rfl, hvp5, hfar⟩; have HVP5 := Lib.hid hvp5; have z5 := hb5.size; (try simp at z5); (try have y3 : v5.ownBlock ≠ some wk1.heap.size := hfar _ (by first | omega | (simp; done) | (simp; omega))); (try have y4 : v5.ownBlock ≠ some w4.heap.size := hfar _ (by first | omega | (simp; done) | (simp; omega))); have y5 : v5.ownBlock ≠ some w5.heap.size := hfar _ (.inr (Nat.le_refl _)); have HB5 := Lib.hid (show Below wk1.heap.size wk1 w5 from Below.trans (by repeat (first | (with_reducible exact HB5.out) | (with_reducible exact HB4.out) | (with_reducible exact Below.refl _ _) | (with_reducible refine Below.setCell ?_ (by first | omega | (simp; done) | (simp; omega)) _) | (with_reducible refine Below.drew ?_) | (with_reducible refine Below.alloc ?_ (by first | omega | (simp; done) | (simp; omega)) _))) (hb5.mono (by first | omega | (simp; done) | (simp; omega)))); (try have p5 := dcell hb5 (b := wk1.heap.size) (by first | omega | (simp; done) | (simp; omega))); (try have p5f := dfroz hb5 (b := wk1.heap.size) (by first | omega | (simp; done) | (simp; omega))); (try have p6 := dcell hb5 (b := w4.heap.size) (by first | omega | (simp; done) | (simp; omega))); (try have p6f := dfroz hb5 (b := w4.heap.size) (by first | omega | (simp; done) | (simp; omega))); clear hb5 hvp5 hfar))
          all_goals (try go_wp2_with fail)
          all_goals go_meet
          all_goals exact ⟨rfl, (by repeat (first | (with_reducible exact HB5.out) | (with_reducible exact Below.refl _ _) | (with_reducible refine Below.setCell ?_ (by first | omega | (simp; done) | (simp; omega)) _) | (with_reducible refine Below.drew ?_) | (with_reducible refine Below.alloc ?_ (by first | omega | (simp; done) | (simp; omega)) _)))⟩
        case rest =>
          obtain ⟨rfl, hbx⟩ := hcut
          obtain ⟨wk2, hnw⟩ : ∃ x : World, x = wc := ⟨_, rfl⟩
          subst hnw
          have hvk2 := hbx.size
          have HBK2 := Lib.hid (HBK.out.trans (hbx.mono hvk))
          replace m0 := (dcell hbx hlm 0).trans m0
          replace m1 := (dcell hbx hlm 1).trans m1
          replace m2 := (dcell hbx hlm 2).trans m2
          replace n0 := (dcell hbx hlw 0).trans n0
          replace n1 := (dcell hbx hlw 1).trans n1
          replace n2 := (dcell hbx hlw 2).trans n2
          replace n3 := (dcell hbx hlw 3).trans n3
          replace k0 := (dcell hbx hlx 0).trans k0
          replace k1 := (dcell hbx hlx 1).trans k1
          replace k2 := (dcell hbx hlx 2).trans k2
          replace hlx : w3.heap.size + 1 < wk2.heap.size := Nat.lt_of_lt_of_le hlx hvk2
          replace hlm : w3.heap.size < wk2.heap.size := Nat.lt_of_lt_of_le hlm hvk2
          replace hlw : w.heap.size < wk2.heap.size := Nat.lt_of_lt_of_le hlw hvk2
          replace hvk : wv.heap.size ≤ wk2.heap.size := Nat.le_trans hvk hvk2
          replace HBK := HBK2
          replace a0 := (dcell hbx hg1 0).trans a0
          replace a1 := (dcell hbx hg1 1).trans a1
          replace a2 := (dcell hbx hg1 2).trans a2
          replace a3 := (dcell hbx hg1 3).trans a3
          replace HVP1 := Lib.hid (HVP1.out.below hbx)
          replace hg1 := cell_lt a0
          clear HBK2 hvk2 hbx k0 k1 k2 hlx LX RX
          go_wp2_with fail
          go_cut [17, 18, 19, 20] (fun c13 c14 c15 c16 wx => ∃ (v : Value) (g : Nat), c13 = v ∧ c14 = .pointer (some ⟨g, 0, none⟩) ∧ c15 = .int .i64 U ∧ c16 = .int .i64 X ∧ (wx.cell? ⟨g, 0, none⟩ = some (.int .i64 P0) ∧ wx.cell? ⟨g, 1, none⟩ = some (.int .i64 P1) ∧ wx.cell? ⟨g, 2, none⟩ = some (.int .i64 P2) ∧ wx.cell? ⟨g, 3, none⟩ = some (.int .i64 P3)) ∧ Below wk2.heap.size wk2 wx ∧ VP ok v wx)
          case first =>
            go_region_held3 (fun w' => (w'.cell? ⟨w3.heap.size, 0, none⟩ = some (.slice (some ⟨sb, 0, none⟩) 7 7) ∧ w'.cell? ⟨w3.heap.size, 1, none⟩ = some (.slice (some ⟨cb, 0, none⟩) 2 2) ∧ w'.cell? ⟨w3.heap.size, 2, none⟩ = some (.slice (some ⟨f, 0, none⟩) (nf + 1) fc)) ∧ w'.cell? ⟨w.heap.size, 0, none⟩ = some (.int .i64 i0) ∧ w'.cell? ⟨w.heap.size, 1, none⟩ = some (.int .i64 i1) ∧ w'.cell? ⟨w.heap.size, 2, none⟩ = some (.int .i64 i2) ∧ w'.cell? ⟨w.heap.size, 3, none⟩ = some (.int .i64 i3)) (first | exact keepRunC (u1 := wk2) (by repeat (first | (with_reducible exact HB5.out) | (with_reducible exact HB4.out) | (with_reducible exact Below.refl _ _) | (with_reducible refine Below.setCell ?_ (by first | omega | (simp; done) | (simp; omega)) _) | (with_reducible refine Below.drew ?_) | (with_reducible refine Below.alloc ?_ (by first | omega | (simp; done) | (simp; omega)) _))) hlm hlw m0 m1 m2 n0 n1 n2 n3)
              (first
                | (go_at_call 20; refine (LC.out _ (HBK.out.trans (Below.mono (by repeat (first | (with_reducible exact HB5.out) | (with_reducible exact HB4.out) | (with_reducible exact Below.refl _ _) | (with_reducible refine Below.setCell ?_ (by first | omega | (simp; done) | (simp; omega)) _) | (with_reducible refine Below.drew ?_) | (with_reducible refine Below.alloc ?_ (by first | omega | (simp; done) | (simp; omega)) _))) hvk))).mono ?_; rintro e w4 ⟨⟨ww, wcp, rfl, hc1, ho4⟩, hb4⟩; have HO4 := Lib.hid ho4; have HB4 := Lib.hid (show Below wk2.heap.size wk2 w4 from Below.trans (by repeat (first | (with_reducible exact HB5.out) | (with_reducible exact HB4.out) | (with_reducible exact Below.refl _ _) | (with_reducible refine Below.setCell ?_ (by first | omega | (simp; done) | (simp; omega)) _) | (with_reducible refine Below.drew ?_) | (with_reducible refine Below.alloc ?_ (by first | omega | (simp; done) | (simp; omega)) _))) (hb4.mono (by first | omega | (simp; done) | (simp; omega)))); have z4 := hb4.size; (try simp at z4); (try have p4 := dcell hb4 (b := wk2.heap.size) (by first | omega | (simp; done) | (simp; omega))); (try have p4f := dfroz hb4 (b := wk2.heap.size) (by first | omega | (simp; done) | (simp; omega))); clear ho4 hb4)
                | (go_at_call 22; refine (RC.out _ (HBK.out.trans (Below.mono (by repeat (first | (with_reducible exact HB5.out) | (with_reducible exact HB4.out) | (with_reducible exact Below.refl _ _) | (with_reducible refine Below.setCell ?_ (by first | omega | (simp; done) | (simp; omega)) _) | (with_reducible refine Below.drew ?_) | (with_reducible refine Below.alloc ?_ (by first | omega | (simp; done) | (simp; omega)) _))) hvk)) _ _ _ (by first | exact HO4.out | exact own_dr HO4.out | exact HO4.out.alloc _) hc1).mono ?_; rintro e w5 ⟨hb5, v5, rfl, hvp5, hfar⟩; have HVP5 := Lib.hid hvp5; have z5 := hb5.size; (try simp at z5); (try have y3 : v5.ownBlock ≠ some wk2.heap.size := hfar _ (by first | omega | (simp; done) | (simp; omega))); (try have y4 : v5.ownBlock ≠ some w4.heap.size := hfar _ (by first | omega | (simp; done) | (simp; omega))); have y5 : v5.ownBlock ≠ some w5.heap.size := hfar _ (.inr (Nat.le_refl _)); have HB5 := Lib.hid (show Below wk2.heap.size wk2 w5 from Below.trans (by repeat (first | (with_reducible exact HB5.out) | (with_reducible exact HB4.out) | (with_reducible exact Below.refl _ _) | (with_reducible refine Below.setCell ?_ (by first | omega | (simp; done) | (simp; omega)) _) | (with_reducible refine Below.drew ?_) | (with_reducible refine Below.alloc ?_ (by first | omega | (simp; done) | (simp; omega)) _))) (hb5.mono (by first | omega | (simp; done) | (simp; omega)))); (try have p5 := dcell hb5 (b := wk2.heap.size) (by first | omega | (simp; done) | (simp; omega))); (try have p5f := dfroz hb5 (b := wk2.heap.size) (by first | omega | (simp; done) | (simp; omega))); (try have p6 := dcell hb5 (b := w4.heap.size) (by first | omega | (simp; done) | (simp; omega))); (try have p6f := dfroz hb5 (b := w4.heap.size) (by first | omega | (simp; done) | (simp; omega))); clear hb5 hvp5 hfar))
            all_goals (try go_wp2_with fail)
            all_goals go_meet
            all_goals
              refine ⟨v5, _, rfl, rfl, rfl, rfl, ⟨by go_simp, by go_simp, by go_simp, by go_simp⟩, (by repeat (first | (with_reducible exact HB5.out) | (with_reducible exact Below.refl _ _) | (with_reducible refine Below.setCell ?_ (by first | omega | (simp; done) | (simp; omega)) _) | (with_reducible refine Below.drew ?_) | (with_reducible refine Below.alloc ?_ (by first | omega | (simp; done) | (simp; omega)) _))), ?_⟩
              repeat (first | (with_reducible exact HVP5.out) | (with_reducible refine VP.far ?_ (by assumption) _) | (with_reducible refine VP.alloc ?_ _) | (with_reducible refine VP.drew ?_))
          case rest =>
            obtain ⟨v2, g2, hv2, rfl, rfl, rfl, ⟨b0, b1, b2, b3⟩, hbx, hvp2⟩ := hcut
            have hv2' := hv2.symm
            subst hv2'
            replace a0 := (dcell hbx hg1 0).trans a0
            replace a1 := (dcell hbx hg1 1).trans a1
            replace a2 := (dcell hbx hg1 2).trans a2
            replace a3 := (dcell hbx hg1 3).trans a3
            have hvp1 := HVP1.out.below hbx
            have hg2 := cell_lt b0
            have hg3 := cell_lt a0
            have E4 := eq4_same P0 P1 P2 P3
            have HBF := Lib.hid (HBV.out.trans ((HBK.out.trans (hbx.mono hvk)).mono (Nat.le_of_lt hlwv)))
            cases ok with
            | none =>
              have hvp1 : v1 = .slice none 0 0 := hvp1
              have hvp2 : v2 = .slice none 0 0 := hvp2
              subst hvp1 hvp2
              have IN := Lib.hid (ints_nil wc)
              clear hbx HVP1 LC RC m0 m1 m2 n0 n1 n2 n3 HBK HBV
              go_wp2_with fail
              with_reducible refine (IN.out).mono ?_
              rintro e w9 ⟨rfl, hb9⟩
              have z0 := (dcell hb9 hg3 0).trans a0
              have z1 := (dcell hb9 hg3 1).trans a1
              have z2' := (dcell hb9 hg3 2).trans a2
              have z3 := (dcell hb9 hg3 3).trans a3
              have x0 := (dcell hb9 hg2 0).trans b0
              have x1 := (dcell hb9 hg2 1).trans b1
              have x2 := (dcell hb9 hg2 2).trans b2
              have x3 := (dcell hb9 hg2 3).trans b3
              have HB9 := Lib.hid (below3 HBF.out HBF.out.size hb9)
              clear hb9 a0 a1 a2 a3 b0 b1 b2 b3
              go_wp2_with fail
              go_ret
              exact ⟨rfl, HB9.out⟩
            | some cs =>
              have hcs := HOK.out cs rfl
              have hvp1 : wc.ownsRow 0 3 1 v1 cs.length (cs.map (Value.int .i64)) := hvp1
              have hvp2 : wc.ownsRow 0 3 1 v2 cs.length (cs.map (Value.int .i64)) := hvp2
              obtain ⟨d1, e1, rfl, _, hd1⟩ := hvp1.form (by omega)
              obtain ⟨d2, e2, rfl, _, hd2⟩ := hvp2.form (by omega)
              obtain ⟨_, e1', hx0, hx1, hx2⟩ := own_slice hvp1
              obtain rfl : e1 = e1' := by injection hx0
              obtain ⟨_, e2', hy0, hy1, hy2⟩ := own_slice hvp2
              obtain rfl : e2 = e2' := by injection hy0
              unfold maxLen at hx2 hy2
              have IN := Lib.hid (ints_same d1 d2 e1 e2 cs.length cs wc hd1 hd2 rfl ⟨by omega, by omega⟩ ⟨by omega, by omega⟩ (fun q x hq => own_at hvp1 q x hq) (fun q x hq => own_at hvp2 q x hq))
              clear hbx HVP1 LC RC m0 m1 m2 n0 n1 n2 n3 HBK HBV hx0 hy0 hvp1 hvp2 hcs
              go_wp2_with fail
              with_reducible refine (IN.out).mono ?_
              rintro e w9 ⟨rfl, hb9⟩
              have z0 := (dcell hb9 hg3 0).trans a0
              have z1 := (dcell hb9 hg3 1).trans a1
              have z2' := (dcell hb9 hg3 2).trans a2
              have z3 := (dcell hb9 hg3 3).trans a3
              have x0 := (dcell hb9 hg2 0).trans b0
              have x1 := (dcell hb9 hg2 1).trans b1
              have x2 := (dcell hb9 hg2 2).trans b2
              have x3 := (dcell hb9 hg2 3).trans b3
              have HB9 := Lib.hid (below3 HBF.out HBF.out.size hb9)
              clear hb9 a0 a1 a2 a3 b0 b1 b2 b3
              go_wp2_with fail
              go_ret
              exact ⟨rfl, HB9.out⟩
    · have FB := Lib.hid (fun W => by have h := few12_any A1 len1 cap1 W (by omega); rw [decide_eq_false hfb0] at h; exact h)
      clear c0 w0 c1 wx1 c2
      go_enter Tryd.func8, Tryd.ntmps8
      go_wp2_with (first | (go_at_call 17; refine (KN.out _).mono ?_; rintro e w1 ⟨rfl, hb1⟩; have HB1 := Lib.hid (show Below w.heap.size w w1 from ((Below.refl _ w).alloc (Nat.le_refl _) _).trans (hb1.mono (by simp))); obtain ⟨o0, o1, o2, o3, -, -, -, -⟩ := box_new4 hb1; have hz1 := hb1.size; (try simp at hz1); clear hb1) | (go_at_call 18; first | (with_reducible refine (FA.out _).mono ?_; rintro e _ ⟨rfl, rfl⟩) | (with_reducible refine (FB.out _).mono ?_; rintro e _ ⟨rfl, rfl⟩)) | (go_at_call 21; (with_reducible refine (W5.out _).mono ?_); rintro e _ ⟨rfl, rfl⟩))
      go_ret
      exact ⟨rfl, HB1.out⟩
  · have FA := Lib.hid (fun W => by have h := few12_any A0 len0 cap0 W (by omega); rw [decide_eq_false hfa0] at h; exact h)
    have FB := FA
    clear c0 w0 c1 wx1 c2
    go_enter Tryd.func8, Tryd.ntmps8
    go_wp2_with (first | (go_at_call 17; refine (KN.out _).mono ?_; rintro e w1 ⟨rfl, hb1⟩; have HB1 := Lib.hid (show Below w.heap.size w w1 from ((Below.refl _ w).alloc (Nat.le_refl _) _).trans (hb1.mono (by simp))); obtain ⟨o0, o1, o2, o3, -, -, -, -⟩ := box_new4 hb1; have hz1 := hb1.size; (try simp at hz1); clear hb1) | (go_at_call 18; first | (with_reducible refine (FA.out _).mono ?_; rintro e _ ⟨rfl, rfl⟩) | (with_reducible refine (FB.out _).mono ?_; rintro e _ ⟨rfl, rfl⟩)) | (go_at_call 21; (with_reducible refine (W5.out _).mono ?_); rintro e _ ⟨rfl, rfl⟩))
    go_ret
    exact ⟨rfl, HB1.out⟩
end Go.Proofs.YtngobbbinacomaaDoor
