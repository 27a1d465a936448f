/- Chapter 14: VmBudgets, walked. -/
import Derived.Test.YtngobbbinacomaaDoorTF14
import Derived.Test.YtngobbbinacomaaDoorTG14
import Derived.Test.YtngobbbinacomaaDoorU14
import Derived.Test.YtngobbbinacomaaDoorBA14
import Derived.Deep.QuietTactic
import Derived.BigRegion
import Derived.Deep.RegionHeld3
import Derived.Deep.DeepCutAuto
import Derived.BigQuiet
namespace Go.Proofs.YtngobbbinacomaaDoor
open Go.RowKit Go.Proofs.YtngobbbinacomaaDoor.c11 Go.Proofs.YtngobbbinacomaaDoor.c10 Go.Proofs.YtngobbbinacomaaDoor.c13
set_option linter.unusedVariables false
set_option linter.unusedSimpArgs false
attribute [local go_sem ↓] Go.wp_at_zero Go.wp_at_succ

theorem box_new4 {u w5 : World} {a b c d : Value} {t : TypeId} (hb : Below (u.alloc (.cells #[a, b, c, d] t)).heap.size (u.alloc (.cells #[a, b, c, d] t)) w5) :
    w5.cell? ⟨u.heap.size, 0, none⟩ = some a ∧ w5.cell? ⟨u.heap.size, 1, none⟩ = some b ∧ w5.cell? ⟨u.heap.size, 2, none⟩ = some c ∧ w5.cell? ⟨u.heap.size, 3, none⟩ = some d ∧
    w5.frozen? ⟨u.heap.size, 0, none⟩ = false ∧ w5.frozen? ⟨u.heap.size, 1, none⟩ = false ∧ w5.frozen? ⟨u.heap.size, 2, none⟩ = false ∧ w5.frozen? ⟨u.heap.size, 3, none⟩ = false :=
  ⟨(dcell hb (by simp) 0).trans (by go_simp), (dcell hb (by simp) 1).trans (by go_simp), (dcell hb (by simp) 2).trans (by go_simp), (dcell hb (by simp) 3).trans (by go_simp), (dfroz hb (by simp) 0).trans (by go_simp), (dfroz hb (by simp) 1).trans (by go_simp), (dfroz hb (by simp) 2).trans (by go_simp), (dfroz hb (by simp) 3).trans (by go_simp)⟩
theorem few12_any (A : Option Addr) (n c : Nat) (w : World) (hn : n ≤ 9223372036854775807) : Calls Tryd.prog 18 #[.slice A n c] w fun e w' => e = .returned (.bool (decide (n ≤ 80))) ∧ w = w' := by
  by_cases h : n ≤ 80
  · have h1 : (n : Int) ≤ 80 := by omega
    go_enter Tryd.func18, Tryd.ntmps18
    go_wp2
    go_ret
    exact ⟨qrb (by simp [h]), rfl⟩
  · have h1 : ¬ (n : Int) ≤ 80 := by omega
    go_enter Tryd.func18, Tryd.ntmps18
    go_wp2
    go_ret
    exact ⟨qrb (by simp [h]), rfl⟩

/-- The environment of a sound program. -/
def envS (longer : Bool) (sb cb f fc : Nat) (codes : List (List Int)) (vs : List Value) (i0 i1 i2 i3 now : Int) : Env := envF (some ⟨sb, 0, none⟩) 7 (symsP longer) [7, -1] (some ⟨cb, 0, none⟩) 2 codes vs f fc i0 i1 i2 i3 now none 0
theorem symsP_len (longer : Bool) : ∀ c ∈ cellsOf (symsP longer), c.len ≤ 1000000 := by
  intro c hc
  have h : (cellsOf (symsP longer)).all (fun c => decide (c.len ≤ 1000000)) = true := by cases longer <;> kernel_rfl
  exact of_decide_eq_true (List.all_eq_true.1 h c hc)
theorem CodeMade.func {cells : List CellD} {funcs : Int} {b : List Int} (h : CodeMade cells funcs b) : Func12 cells b := by
  obtain ⟨sp, bs, st, h1, h2, h3⟩ := h
  exact ⟨funcs, sp, bs, st, h1, h2, h3⟩
/-- A sound program run: what it used, its error, and, if there is none, what it left. -/
theorem sound_run (longer : Bool) {sb cb f fc nf : Nat} {codes : List (List Int)} {vs : List Value} {u : World} (hs : Syms u u.heap.size (some ⟨sb, 0, none⟩) 7 (symsP longer)) (hk : Row u u.heap.size 1 (some ⟨cb, 0, none⟩) 2 (([7, -1] : List Int).map (Value.int .i64))) (hF : FuncsAt u f codes vs) (hfc : codes.length ≤ fc ∧ fc ≤ 9223372036854775807) (hcl : codes.length = nf + 1) (hnf : nf ≤ 2)
    (hm : ∀ (i : Nat) (b : List Int), codes[i]? = some b → CodeMade (cellsOf (symsP longer)) (if i = 0 then (nf : Int) else 0) b) (i0 i1 i2 i3 now : Int) (CA : Option Addr) (n CC : Nat) (zs : List Int) (hz : Row u u.heap.size 1 CA n (zs.map (Value.int .i64))) (hzn : n ≤ 1000000) (hzc : n ≤ CC) (B : Int) (hB : B ≤ 1000000) :
    Calls Tryd.prog 22 #[.agg #[.slice (some ⟨sb, 0, none⟩) 7 7, .slice (some ⟨cb, 0, none⟩) 2 2, .slice (some ⟨f, 0, none⟩) codes.length fc], .slice CA n CC, .agg #[.int .i64 i0, .int .i64 i1, .int .i64 i2, .int .i64 i3], .agg #[.int .i64 0, .int .i64 0, .int .i64 0, .int .i64 0], .int .i64 now, .int .i64 B] u fun e w' =>
      Below u.heap.size u w' ∧ ∃ v o0 o1 o2 o3, e = .returned (.tuple #[v, .agg #[.int .i64 o0, .int .i64 o1, .int .i64 o2, .int .i64 o3], .int .i64 ((ranP (envS longer sb cb f fc codes vs i0 i1 i2 i3 now) zs (max B 0).toNat).1.used : Nat), .int .i64 (ranP (envS longer sb cb f fc codes vs i0 i1 i2 i3 now) zs (max B 0).toNat).2]) ∧
        (((ranP (envS longer sb cb f fc codes vs i0 i1 i2 i3 now) zs (max B 0).toNat).2 = 0 ∧ o0 = (ranP (envS longer sb cb f fc codes vs i0 i1 i2 i3 now) zs (max B 0).toNat).1.o0 ∧ o1 = (ranP (envS longer sb cb f fc codes vs i0 i1 i2 i3 now) zs (max B 0).toNat).1.o1 ∧ o2 = (ranP (envS longer sb cb f fc codes vs i0 i1 i2 i3 now) zs (max B 0).toNat).1.o2 ∧ o3 = (ranP (envS longer sb cb f fc codes vs i0 i1 i2 i3 now) zs (max B 0).toNat).1.o3 ∧ w'.ownsRow u.heap.size 3 1 v (ranP (envS longer sb cb f fc codes vs i0 i1 i2 i3 now) zs (max B 0).toNat).1.cells.length ((ranP (envS longer sb cb f fc codes vs i0 i1 i2 i3 now) zs (max B 0).toNat).1.cells.map (Value.int .i64)))
          ∨ ((ranP (envS longer sb cb f fc codes vs i0 i1 i2 i3 now) zs (max B 0).toNat).2 ≠ 0 ∧ v = .slice none 0 0 ∧ o0 = 0 ∧ o1 = 0 ∧ o2 = 0 ∧ o3 = 0)) := by
  have hbytes : ∀ b ∈ codes, ∀ x ∈ b, 0 ≤ x ∧ x < 256 := fun b hb => by
    obtain ⟨i, hi, rfl⟩ := List.getElem_of_mem hb
    exact (hm i _ (List.getElem?_eq_getElem hi)).bytes (symsP_kinds longer)
  have hlen : ∀ b ∈ codes, b.length ≤ 120 := fun b hb => by
    obtain ⟨i, hi, rfl⟩ := List.getElem_of_mem hb
    have := (hm i _ (List.getElem?_eq_getElem hi)).len
    omega
  have hsl : (symsP longer).length = 7 := by cases longer <;> rfl
  have hrun := run_any (envS longer sb cb f fc codes vs i0 i1 i2 i3 now) (some ⟨sb, 0, none⟩) 7 (symsP longer) u (imgF (by rw [hsl]; exact hs) (by omega) (by omega) hk (by decide) hF hfc hbytes hlen i0 i1 i2 i3 now) (symsP_len longer) (.inr fun M K S a h0 h1 => blocks_all M K S a h0 h1) CA n CC zs hz hzn hzc 0 0 0 0 B hB
  have e1 : (envS longer sb cb f fc codes vs i0 i1 i2 i3 now).syms = .slice (some ⟨sb, 0, none⟩) 7 7 := by simp [envS, envF, hsl]
  rw [e1] at hrun
  refine hrun.mono ?_
  rintro e w' ⟨hb, La, Lc, hh⟩
  have hc := callP_ran (envS longer sb cb f fc codes vs i0 i1 i2 i3 now) (show 0 < codes.length by omega) La Lc zs (max B 0).toNat
  simp only [hc] at hh
  refine ⟨hb, ?_⟩
  rcases hh with ⟨h0, v, he, hv⟩ | ⟨h0, he⟩
  · refine ⟨v, _, _, _, _, ?_, .inl ⟨h0, rfl, rfl, rfl, rfl, hv⟩⟩
    rw [he, h0]
  · exact ⟨_, 0, 0, 0, 0, he, .inr ⟨h0, rfl, rfl, rfl, rfl, rfl⟩⟩

theorem keepRunC {u1 W' : World} {B m q : Nat} {a0 a1 a2 b0 b1 b2 b3 : Value} (hb : Below B u1 W') (h : m < B) (h' : q < B) (k0 : u1.cell? ⟨m, 0, none⟩ = some a0) (k1 : u1.cell? ⟨m, 1, none⟩ = some a1) (k2 : u1.cell? ⟨m, 2, none⟩ = some a2) (l0 : u1.cell? ⟨q, 0, none⟩ = some b0) (l1 : u1.cell? ⟨q, 1, none⟩ = some b1) (l2 : u1.cell? ⟨q, 2, none⟩ = some b2) (l3 : u1.cell? ⟨q, 3, none⟩ = some b3) :
    (W'.cell? ⟨m, 0, none⟩ = some a0 ∧ W'.cell? ⟨m, 1, none⟩ = some a1 ∧ W'.cell? ⟨m, 2, none⟩ = some a2) ∧ W'.cell? ⟨q, 0, none⟩ = some b0 ∧ W'.cell? ⟨q, 1, none⟩ = some b1 ∧ W'.cell? ⟨q, 2, none⟩ = some b2 ∧ W'.cell? ⟨q, 3, none⟩ = some b3 :=
  ⟨⟨(dcell hb h 0).trans k0, (dcell hb h 1).trans k1, (dcell hb h 2).trans k2⟩, (dcell hb h' 0).trans l0, (dcell hb h' 1).trans l1, (dcell hb h' 2).trans l2, (dcell hb h' 3).trans l3⟩

set_option maxHeartbeats 8000000 in
set_option maxRecDepth 100000 in
theorem vmBudgets_walk (A0 : Option Addr) (len0 cap0 : Nat) (z0 : Nat → Int) (i0 i1 i2 i3 : Int) (a2 : Int) (w : World) (c0 : Came w A0 len0 cap0 fun j => .int .i64 (z0 j)) (w0 : ∀ j, j < len0 → I64 (z0 j)) (w10 : I64 i0) (w11 : I64 i1) (w12 : I64 i2) (w13 : I64 i3) (w20 : I64 a2) :
    Calls Tryd.prog 16 #[.slice A0 len0 cap0, .agg #[.int .i64 i0, .int .i64 i1, .int .i64 i2, .int .i64 i3], .int .i64 a2] w fun e w' => e = .returned (.bool true) ∧ Below w.heap.size w w' := by
  have KN := Lib.hid (fun W => known14_any W)
  have hcap := c0.max
  have hle := c0.le
  by_cases hfew : len0 ≤ 80
  · have FW := Lib.hid (fun W => by have h := few12_any A0 len0 cap0 W (by omega); rw [decide_eq_true hfew] at h; exact h)
    have SD := Lib.hid (fun u (hu : Below w.heap.size w u) => sound_any true A0 len0 cap0 z0 u (c0.belowC hu) w0 hfew)
    obtain ⟨q5, hq5⟩ := Int.eq_ofNat_of_zero_le (Int.emod_nonneg a2 (show (500 : Int) ≠ 0 by decide))
    have hq500 : q5 < 500 := by have := Int.emod_lt_of_pos a2 (show (0 : Int) < 500 by decide); omega
    have W5 := Lib.hid (fun W => show Calls Tryd.prog 21 #[.int .i64 a2, .int .i64 500] W (fun e w' => e = .returned (.int .i64 q5) ∧ W = w') from by have h := within14_any a2 500 (by decide) (by decide) W; rw [hq5] at h; exact h)
    have hq500I : (q5 : Int) < 500 := by omega
    clear c0 w0 hq5
    go_enter Tryd.func16, Tryd.ntmps16
    go_wp2_with (first | (go_at_call 17; refine (KN.out _).mono ?_; rintro e w1 ⟨rfl, hb1⟩; have HB1 := Lib.hid (show Below w.heap.size w w1 from ((Below.refl _ w).alloc (Nat.le_refl _) _).trans (hb1.mono (by simp))); obtain ⟨o0, o1, o2, o3, -, -, -, -⟩ := box_new4 hb1; have hz1 := hb1.size; (try simp at hz1); clear hb1) | (go_at_call 18; refine (FW.out _).mono ?_; rintro e _ ⟨rfl, rfl⟩))
    refine (SD.out _ HB1.out).mono ?_
    rintro e w2 ⟨⟨sb, cb, f, fc, nf, codes, vs, rfl, hsy, hko, hfa, hfc1, hfc2, hcl, hnf, hmd⟩, hb2⟩
    have p0 := (dcell hb2 (show w.heap.size < w1.heap.size by omega) 0).trans o0
    have p1 := (dcell hb2 (show w.heap.size < w1.heap.size by omega) 1).trans o1
    have p2 := (dcell hb2 (show w.heap.size < w1.heap.size by omega) 2).trans o2
    have p3 := (dcell hb2 (show w.heap.size < w1.heap.size by omega) 3).trans o3
    have hz2 := hb2.size
    have HB2 := Lib.hid (HB1.out.trans (hb2.mono (by omega)))
    have hwl : w.heap.size < w2.heap.size := by omega
    have HCL := Lib.hid hcl
    obtain ⟨zs, hzs⟩ : ∃ l, l = (cellsOf (symsP true)).map CellD.init := ⟨_, rfl⟩
    have hzl : zs.length = (cellsOf (symsP true)).length := by rw [hzs]; simp
    have hz200 : zs.length ≤ 200 ∧ 0 < zs.length := by have := symsP_cells true; omega
    have HZL := Lib.hid hzl
    clear hzl
    have HSY := Lib.hid hsy
    have HKO := Lib.hid hko
    have HFA := Lib.hid hfa
    have HMD := Lib.hid hmd
    have BL := Lib.hid (budget_law (envS true sb cb f fc codes vs i0 i1 i2 i3 0) (cellsOf (symsP true)) (fun b hb => by
      have hb : b ∈ codes := hb
      obtain ⟨i, hi, rfl⟩ := List.getElem_of_mem hb
      exact (HMD.out i _ (List.getElem?_eq_getElem hi)).func) (show 0 < codes.length by omega) zs 500)
    have LC0 := fun u (hu : Below w2.heap.size w2 u) => lcells_any (some ⟨sb, 0, none⟩) 7 7 (symsP true) (some ⟨cb, 0, none⟩) (some ⟨f, 0, none⟩) 2 2 (nf + 1) fc u ((HSY.out.below hu).moreS hu.size) (by decide) (by decide) (by decide) (symsP_size true)
    have RC1 := fun (B : Int) (L : Nat) (hB : (max B 0).toNat = L) (hL : B ≤ 1000000) u (hu : Below w2.heap.size w2 u) (ww wcp base : Nat) (ho : u.ownsRow base 3 1 (.slice (some ⟨ww, 0, none⟩) zs.length wcp) zs.length (zs.map (Value.int .i64))) (hc : zs.length ≤ wcp) => sound_run true (sb := sb) (cb := cb) (f := f) (fc := fc) (nf := nf) (codes := codes) (vs := vs) (u := u) ((HSY.out.below hu).moreS hu.size) ((HKO.out.below hu).more hu.size) (HFA.out.below hu) ⟨hfc1, hfc2⟩ HCL.out hnf HMD.out i0 i1 i2 i3 0 (some ⟨ww, 0, none⟩) zs.length wcp zs (Row.of_own ho) (by omega) hc B hL
    have hfcn : nf + 1 ≤ fc := by omega
    clear o0 o1 o2 o3 hb2 hsy hko hfa hmd
    go_wp2_with fail
    obtain ⟨wv, hwv⟩ : ∃ x : World, x = w2.alloc (.cells #[.slice (some ⟨sb, 0, none⟩) 7 7, .slice (some ⟨cb, 0, none⟩) 2 2, .slice (some ⟨f, 0, none⟩) (nf + 1) fc] 29) := ⟨_, rfl⟩
    have hbv : Below w2.heap.size w2 wv := by rw [hwv]; exact (Below.refl _ _).alloc (Nat.le_refl _) _
    have hzv : wv.heap.size = w2.heap.size + 1 := by rw [hwv]; simp
    have m0 : wv.cell? ⟨w2.heap.size, 0, none⟩ = some (.slice (some ⟨sb, 0, none⟩) 7 7) := by rw [hwv]; go_simp
    have m1 : wv.cell? ⟨w2.heap.size, 1, none⟩ = some (.slice (some ⟨cb, 0, none⟩) 2 2) := by rw [hwv]; go_simp
    have m2 : wv.cell? ⟨w2.heap.size, 2, none⟩ = some (.slice (some ⟨f, 0, none⟩) (nf + 1) fc) := by rw [hwv]; go_simp
    have n0 := (dcell hbv hwl 0).trans p0
    have n1 := (dcell hbv hwl 1).trans p1
    have n2 := (dcell hbv hwl 2).trans p2
    have n3 := (dcell hbv hwl 3).trans p3
    have hlm : w2.heap.size < wv.heap.size := by omega
    have hlw : w.heap.size < wv.heap.size := by omega
    have hvk : wv.heap.size ≤ wv.heap.size := Nat.le_refl _
    have hlwv := hlw
    have HBK := Lib.hid (Below.refl wv.heap.size wv)
    have HBV := Lib.hid (show Below w.heap.size w wv from HB2.out.trans (hbv.mono (by omega)))
    have LC := Lib.hid (fun u (hu : Below wv.heap.size wv u) => (LC0 u (hbv.trans (hu.mono (by omega)))).mono (fun e w' (h : ∃ v, e = .returned v ∧ w'.ownsRow u.heap.size 3 1 v (cellsOf (symsP true)).length (((cellsOf (symsP true)).map CellD.init).map (Value.int .i64)) ∧ Below u.heap.size u w') => show (∃ ww wcp, e = .returned (.slice (some ⟨ww, 0, none⟩) zs.length wcp) ∧ zs.length ≤ wcp ∧ w'.ownsRow u.heap.size 3 1 (.slice (some ⟨ww, 0, none⟩) zs.length wcp) zs.length (zs.map (Value.int .i64))) ∧ Below u.heap.size u w' from by
      obtain ⟨v, h1, h2, h3⟩ := h
      rw [← hzs, ← HZL.out] at h2
      obtain ⟨g, cap, rfl, _, _⟩ := h2.form hz200.2
      obtain ⟨_, cap', e1, e2, _⟩ := own_slice h2
      obtain rfl : cap = cap' := by injection e1
      exact ⟨⟨g, cap, h1, e2, h2⟩, h3⟩))
    have RC0 := Lib.hid (fun (B : Int) (L : Nat) (hB : (max B 0).toNat = L) (hL : B ≤ 1000000) (u : World) (hu : Below wv.heap.size wv u) (ww wcp base : Nat) (ho : u.ownsRow base 3 1 (.slice (some ⟨ww, 0, none⟩) zs.length wcp) zs.length (zs.map (Value.int .i64))) (hc : zs.length ≤ wcp) => show Calls Tryd.prog 22 #[.agg #[.slice (some ⟨sb, 0, none⟩) 7 7, .slice (some ⟨cb, 0, none⟩) 2 2, .slice (some ⟨f, 0, none⟩) (nf + 1) fc], .slice (some ⟨ww, 0, none⟩) zs.length wcp, .agg #[.int .i64 i0, .int .i64 i1, .int .i64 i2, .int .i64 i3], .agg #[.int .i64 0, .int .i64 0, .int .i64 0, .int .i64 0], .int .i64 0, .int .i64 B] u (fun e w' => Below u.heap.size u w' ∧ ∃ v y0 y1 y2 y3, e = .returned (.tuple #[v, .agg #[.int .i64 y0, .int .i64 y1, .int .i64 y2, .int .i64 y3], .int .i64 ((ranP (envS true sb cb f fc codes vs i0 i1 i2 i3 0) zs L).1.used : Nat), .int .i64 (ranP (envS true sb cb f fc codes vs i0 i1 i2 i3 0) zs L).2])) from by
      have h := RC1 B L hB hL u (hbv.trans (hu.mono (by omega))) ww wcp base ho hc
      rw [HCL.out, hB] at h
      exact h.mono fun e w' ⟨h1, v, y0, y1, y2, y3, h2, _⟩ => ⟨h1, v, y0, y1, y2, y3, h2⟩)
    rw [← hwv]
    have HZV := Lib.hid hzv
    clear hwv hbv LC0 RC1 p0 p1 p2 p3 hcl hzs hzv hz2
    generalize hG : ranP (envS true sb cb f fc codes vs i0 i1 i2 i3 0) zs = G at *
    clear hG
    have RC := Lib.hid (fun (u : World) (hu : Below wv.heap.size wv u) (ww wcp base : Nat) (ho : u.ownsRow base 3 1 (.slice (some ⟨ww, 0, none⟩) zs.length wcp) zs.length (zs.map (Value.int .i64))) (hc : zs.length ≤ wcp) => show Calls Tryd.prog 22 #[.agg #[.slice (some ⟨sb, 0, none⟩) 7 7, .slice (some ⟨cb, 0, none⟩) 2 2, .slice (some ⟨f, 0, none⟩) (nf + 1) fc], .slice (some ⟨ww, 0, none⟩) zs.length wcp, .agg #[.int .i64 i0, .int .i64 i1, .int .i64 i2, .int .i64 i3], .agg #[.int .i64 0, .int .i64 0, .int .i64 0, .int .i64 0], .int .i64 0, .int .i64 (500)] u (fun e w' => Below u.heap.size u w' ∧ ∃ v y0 y1 y2 y3, e = .returned (.tuple #[v, .agg #[.int .i64 y0, .int .i64 y1, .int .i64 y2, .int .i64 y3], .int .i64 (((G 500).1.used : Nat)), .int .i64 ((G 500).2)])) from (RC0.out (500) (500) (by omega) (by omega) u hu ww wcp base ho hc).mono fun e w' ⟨h1, v, y0, y1, y2, y3, h2⟩ => ⟨h1, v, y0, y1, y2, y3, by rw [h2]⟩)
    go_cut [10, 11] (fun c8 c9 wx => c8 = .int .i64 (((G 500).1.used : Nat)) ∧ c9 = .int .i64 ((G 500).2) ∧ Below wv.heap.size wv wx)
    case first =>
      go_region_held3 (fun w' => (w'.cell? ⟨w2.heap.size, 0, none⟩ = some (.slice (some ⟨sb, 0, none⟩) 7 7) ∧ w'.cell? ⟨w2.heap.size, 1, none⟩ = some (.slice (some ⟨cb, 0, none⟩) 2 2) ∧ w'.cell? ⟨w2.heap.size, 2, none⟩ = some (.slice (some ⟨f, 0, none⟩) (nf + 1) fc)) ∧ w'.cell? ⟨w.heap.size, 0, none⟩ = some (.int .i64 i0) ∧ w'.cell? ⟨w.heap.size, 1, none⟩ = some (.int .i64 i1) ∧ w'.cell? ⟨w.heap.size, 2, none⟩ = some (.int .i64 i2) ∧ w'.cell? ⟨w.heap.size, 3, none⟩ = some (.int .i64 i3)) (first | exact keepRunC (u1 := wv) (by repeat (first | (with_reducible exact HB5.out) | (with_reducible exact HB4.out) | (with_reducible exact Below.refl _ _) | (with_reducible refine Below.setCell ?_ (by first | omega | (simp; done) | (simp; omega)) _) | (with_reducible refine Below.drew ?_) | (with_reducible refine Below.alloc ?_ (by first | omega | (simp; done) | (simp; omega)) _))) hlm hlw m0 m1 m2 n0 n1 n2 n3)
        (first
          | (go_at_call 20; refine (LC.out _ (HBK.out.trans (Below.mono (by repeat (first | (with_reducible exact HB5.out) | (with_reducible exact HB4.out) | (with_reducible exact Below.refl _ _) | (with_reducible refine Below.setCell ?_ (by first | omega | (simp; done) | (simp; omega)) _) | (with_reducible refine Below.drew ?_) | (with_reducible refine Below.alloc ?_ (by first | omega | (simp; done) | (simp; omega)) _))) hvk))).mono ?_; rintro e w4 ⟨⟨ww, wcp, rfl, hc1, ho4⟩, hb4⟩; have HO4 := Lib.hid ho4; have HB4 := Lib.hid (show Below wv.heap.size wv w4 from Below.trans (by repeat (first | (with_reducible exact HB5.out) | (with_reducible exact HB4.out) | (with_reducible exact Below.refl _ _) | (with_reducible refine Below.setCell ?_ (by first | omega | (simp; done) | (simp; omega)) _) | (with_reducible refine Below.drew ?_) | (with_reducible refine Below.alloc ?_ (by first | omega | (simp; done) | (simp; omega)) _))) (hb4.mono (by first | omega | (simp; done) | (simp; omega)))); have z4 := hb4.size; (try simp at z4); (try have p4 := dcell hb4 (b := wv.heap.size) (by first | omega | (simp; done) | (simp; omega))); (try have p4f := dfroz hb4 (b := wv.heap.size) (by first | omega | (simp; done) | (simp; omega))); clear ho4 hb4)
          | (go_at_call 22; refine (RC.out _ (HBK.out.trans (Below.mono (by repeat (first | (with_reducible exact HB5.out) | (with_reducible exact HB4.out) | (with_reducible exact Below.refl _ _) | (with_reducible refine Below.setCell ?_ (by first | omega | (simp; done) | (simp; omega)) _) | (with_reducible refine Below.drew ?_) | (with_reducible refine Below.alloc ?_ (by first | omega | (simp; done) | (simp; omega)) _))) hvk)) _ _ _ (by first | exact HO4.out | exact own_dr HO4.out | exact HO4.out.alloc _) hc1).mono ?_; rintro e w5 ⟨hb5, v5, y0, y1, y2, y3, rfl⟩; have HB5 := Lib.hid (show Below wv.heap.size wv w5 from Below.trans (by repeat (first | (with_reducible exact HB5.out) | (with_reducible exact HB4.out) | (with_reducible exact Below.refl _ _) | (with_reducible refine Below.setCell ?_ (by first | omega | (simp; done) | (simp; omega)) _) | (with_reducible refine Below.drew ?_) | (with_reducible refine Below.alloc ?_ (by first | omega | (simp; done) | (simp; omega)) _))) (hb5.mono (by first | omega | (simp; done) | (simp; omega)))); have z5 := hb5.size; (try simp at z5); (try have p5 := dcell hb5 (b := wv.heap.size) (by first | omega | (simp; done) | (simp; omega))); (try have p5f := dfroz hb5 (b := wv.heap.size) (by first | omega | (simp; done) | (simp; omega))); (try have p6 := dcell hb5 (b := w4.heap.size) (by first | omega | (simp; done) | (simp; omega))); (try have p6f := dfroz hb5 (b := w4.heap.size) (by first | omega | (simp; done) | (simp; omega))); clear hb5))
      all_goals (try go_wp2_with fail)
      all_goals go_meet
      all_goals exact ⟨rfl, rfl, (by repeat (first | (with_reducible exact HB5.out) | (with_reducible exact Below.refl _ _) | (with_reducible refine Below.setCell ?_ (by first | omega | (simp; done) | (simp; omega)) _) | (with_reducible refine Below.drew ?_) | (with_reducible refine Below.alloc ?_ (by first | omega | (simp; done) | (simp; omega)) _)))⟩
    case rest =>
      obtain ⟨rfl, rfl, hbx⟩ := hcut
      obtain ⟨wk1, hnw⟩ : ∃ x : World, x = wc := ⟨_, rfl⟩
      subst hnw
      have hvk2 := hbx.size
      have HBK2 := Lib.hid (HBK.out.trans (hbx.mono hvk))
      replace m0 := (dcell hbx hlm 0).trans m0
      replace m1 := (dcell hbx hlm 1).trans m1
      replace m2 := (dcell hbx hlm 2).trans m2
      replace n0 := (dcell hbx hlw 0).trans n0
      replace n1 := (dcell hbx hlw 1).trans n1
      replace n2 := (dcell hbx hlw 2).trans n2
      replace n3 := (dcell hbx hlw 3).trans n3
      replace hlm : w2.heap.size < wk1.heap.size := Nat.lt_of_lt_of_le hlm hvk2
      replace hlw : w.heap.size < wk1.heap.size := Nat.lt_of_lt_of_le hlw hvk2
      replace hvk : wv.heap.size ≤ wk1.heap.size := Nat.le_trans hvk hvk2
      replace HBK := HBK2
      clear HBK2 hvk2 hbx RC
      rcases BL.out with ⟨hA1, hA2⟩ | ⟨d, x, hx, hd1, hd5, hlaw⟩
      · rw [hA1, hA2]
        have HBF := Lib.hid (HBV.out.trans (HBK.out.mono (Nat.le_of_lt hlwv)))
        clear LC RC0 BL m0 m1 m2 n0 n1 n2 n3
        go_wp2_with fail
        go_ret
        exact ⟨rfl, HBF.out⟩
      · have h500 := (hlaw 500).1 hd5
        rw [h500.1, h500.2]
        have hdd := (hlaw d).1 (Nat.le_refl _)
        have hd1' := (hlaw (d - 1)).2 (by omega)
        have hdm := (hlaw (501 + q5)).1 (by omega)
        have hxx : (x == 23) = false := by rw [beq_eq_false_iff_ne]; exact hx
        have hdI : (1 : Int) ≤ d := by omega
        have hd5I : (d : Int) ≤ 500 := by omega
        have hdw : IntKind.i64.wrap ((d : Int) - 1) = (d : Int) - 1 := IntWalk.i64_in _ (by omega)
        have hmw : IntKind.i64.wrap (501 + (q5 : Int)) = 501 + (q5 : Int) := IntWalk.i64_in _ (by omega)
        have HX := Lib.hid hx
        have HDD := Lib.hid hdd
        have HD1 := Lib.hid hd1'
        have HDM := Lib.hid hdm
        clear hlaw h500 hdd hd1' hdm hx BL
        go_wp2_with fail
        have RC := Lib.hid (fun (u : World) (hu : Below wv.heap.size wv u) (ww wcp base : Nat) (ho : u.ownsRow base 3 1 (.slice (some ⟨ww, 0, none⟩) zs.length wcp) zs.length (zs.map (Value.int .i64))) (hc : zs.length ≤ wcp) => show Calls Tryd.prog 22 #[.agg #[.slice (some ⟨sb, 0, none⟩) 7 7, .slice (some ⟨cb, 0, none⟩) 2 2, .slice (some ⟨f, 0, none⟩) (nf + 1) fc], .slice (some ⟨ww, 0, none⟩) zs.length wcp, .agg #[.int .i64 i0, .int .i64 i1, .int .i64 i2, .int .i64 i3], .agg #[.int .i64 0, .int .i64 0, .int .i64 0, .int .i64 0], .int .i64 0, .int .i64 ((d : Int))] u (fun e w' => Below u.heap.size u w' ∧ ∃ v y0 y1 y2 y3, e = .returned (.tuple #[v, .agg #[.int .i64 y0, .int .i64 y1, .int .i64 y2, .int .i64 y3], .int .i64 ((d : Int)), .int .i64 (x)])) from (RC0.out ((d : Int)) (d) (by omega) (by omega) u hu ww wcp base ho hc).mono fun e w' ⟨h1, v, y0, y1, y2, y3, h2⟩ => ⟨h1, v, y0, y1, y2, y3, by rw [h2, HDD.out.1, HDD.out.2]⟩)
        go_cut [14, 15] (fun c8 c9 wx => c8 = .int .i64 ((d : Int)) ∧ c9 = .int .i64 (x) ∧ Below wk1.heap.size wk1 wx)
        case first =>
          go_region_held3 (fun w' => (w'.cell? ⟨w2.heap.size, 0, none⟩ = some (.slice (some ⟨sb, 0, none⟩) 7 7) ∧ w'.cell? ⟨w2.heap.size, 1, none⟩ = some (.slice (some ⟨cb, 0, none⟩) 2 2) ∧ w'.cell? ⟨w2.heap.size, 2, none⟩ = some (.slice (some ⟨f, 0, none⟩) (nf + 1) fc)) ∧ w'.cell? ⟨w.heap.size, 0, none⟩ = some (.int .i64 i0) ∧ w'.cell? ⟨w.heap.size, 1, none⟩ = some (.int .i64 i1) ∧ w'.cell? ⟨w.heap.size, 2, none⟩ = some (.int .i64 i2) ∧ w'.cell? ⟨w.heap.size, 3, none⟩ = some (.int .i64 i3)) (first | exact keepRunC (u1 := wk1) (by repeat (first | (with_reducible exact HB5.out) | (with_reducible exact HB4.out) | (with_reducible exact Below.refl _ _) | (with_reducible refine Below.setCell ?_ (by first | omega | (simp; done) | (simp; omega)) _) | (with_reducible refine Below.drew ?_) | (with_reducible refine Below.alloc ?_ (by first | omega | (simp; done) | (simp; omega)) _))) hlm hlw m0 m1 m2 n0 n1 n2 n3)
            (first
              | (go_at_call 20; refine (LC.out _ (HBK.out.trans (Below.mono (by repeat (first | (with_reducible exact HB5.out) | (with_reducible exact HB4.out) | (with_reducible exact Below.refl _ _) | (with_reducible refine Below.setCell ?_ (by first | omega | (simp; done) | (simp; omega)) _) | (with_reducible refine Below.drew ?_) | (with_reducible refine Below.alloc ?_ (by first | omega | (simp; done) | (simp; omega)) _))) hvk))).mono ?_; rintro e w4 ⟨⟨ww, wcp, rfl, hc1, ho4⟩, hb4⟩; have HO4 := Lib.hid ho4; have HB4 := Lib.hid (show Below wk1.heap.size wk1 w4 from Below.trans (by repeat (first | (with_reducible exact HB5.out) | (with_reducible exact HB4.out) | (with_reducible exact Below.refl _ _) | (with_reducible refine Below.setCell ?_ (by first | omega | (simp; done) | (simp; omega)) _) | (with_reducible refine Below.drew ?_) | (with_reducible refine Below.alloc ?_ (by first | omega | (simp; done) | (simp; omega)) _))) (hb4.mono (by first | omega | (simp; done) | (simp; omega)))); have z4 := hb4.size; (try simp at z4); (try have p4 := dcell hb4 (b := wk1.heap.size) (by first | omega | (simp; done) | (simp; omega))); (try have p4f := dfroz hb4 (b := wk1.heap.size) (by first | omega | (simp; done) | (simp; omega))); clear ho4 hb4)
              | (go_at_call 22; refine (RC.out _ (HBK.out.trans (Below.mono (by repeat (first | (with_reducible exact HB5.out) | (with_reducible exact HB4.out) | (with_reducible exact Below.refl _ _) | (with_reducible refine Below.setCell ?_ (by first | omega | (simp; done) | (simp; omega)) _) | (with_reducible refine Below.drew ?_) | (with_reducible refine Below.alloc ?_ (by first | omega | (simp; done) | (simp; omega)) _))) hvk)) _ _ _ (by first | exact HO4.out | exact own_dr HO4.out | exact HO4.out.alloc _) hc1).mono ?_; rintro e w5 ⟨hb5, v5, y0, y1, y2, y3, rfl⟩; have HB5 := Lib.hid (show Below wk1.heap.size wk1 w5 from Below.trans (by repeat (first | (with_reducible exact HB5.out) | (with_reducible exact HB4.out) | (with_reducible exact Below.refl _ _) | (with_reducible refine Below.setCell ?_ (by first | omega | (simp; done) | (simp; omega)) _) | (with_reducible refine Below.drew ?_) | (with_reducible refine Below.alloc ?_ (by first | omega | (simp; done) | (simp; omega)) _))) (hb5.mono (by first | omega | (simp; done) | (simp; omega)))); have z5 := hb5.size; (try simp at z5); (try have p5 := dcell hb5 (b := wk1.heap.size) (by first | omega | (simp; done) | (simp; omega))); (try have p5f := dfroz hb5 (b := wk1.heap.size) (by first | omega | (simp; done) | (simp; omega))); (try have p6 := dcell hb5 (b := w4.heap.size) (by first | omega | (simp; done) | (simp; omega))); (try have p6f := dfroz hb5 (b := w4.heap.size) (by first | omega | (simp; done) | (simp; omega))); clear hb5))
          all_goals (try go_wp2_with fail)
          all_goals go_meet
          all_goals exact ⟨rfl, rfl, (by repeat (first | (with_reducible exact HB5.out) | (with_reducible exact Below.refl _ _) | (with_reducible refine Below.setCell ?_ (by first | omega | (simp; done) | (simp; omega)) _) | (with_reducible refine Below.drew ?_) | (with_reducible refine Below.alloc ?_ (by first | omega | (simp; done) | (simp; omega)) _)))⟩
        case rest =>
          obtain ⟨rfl, rfl, hbx⟩ := hcut
          obtain ⟨wk2, hnw⟩ : ∃ x : World, x = wc := ⟨_, rfl⟩
          subst hnw
          have hvk2 := hbx.size
          have HBK2 := Lib.hid (HBK.out.trans (hbx.mono hvk))
          replace m0 := (dcell hbx hlm 0).trans m0
          replace m1 := (dcell hbx hlm 1).trans m1
          replace m2 := (dcell hbx hlm 2).trans m2
          replace n0 := (dcell hbx hlw 0).trans n0
          replace n1 := (dcell hbx hlw 1).trans n1
          replace n2 := (dcell hbx hlw 2).trans n2
          replace n3 := (dcell hbx hlw 3).trans n3
          replace hlm : w2.heap.size < wk2.heap.size := Nat.lt_of_lt_of_le hlm hvk2
          replace hlw : w.heap.size < wk2.heap.size := Nat.lt_of_lt_of_le hlw hvk2
          replace hvk : wv.heap.size ≤ wk2.heap.size := Nat.le_trans hvk hvk2
          replace HBK := HBK2
          clear HBK2 hvk2 hbx RC
          go_wp2_with fail
          have RC := Lib.hid (fun (u : World) (hu : Below wv.heap.size wv u) (ww wcp base : Nat) (ho : u.ownsRow base 3 1 (.slice (some ⟨ww, 0, none⟩) zs.length wcp) zs.length (zs.map (Value.int .i64))) (hc : zs.length ≤ wcp) => show Calls Tryd.prog 22 #[.agg #[.slice (some ⟨sb, 0, none⟩) 7 7, .slice (some ⟨cb, 0, none⟩) 2 2, .slice (some ⟨f, 0, none⟩) (nf + 1) fc], .slice (some ⟨ww, 0, none⟩) zs.length wcp, .agg #[.int .i64 i0, .int .i64 i1, .int .i64 i2, .int .i64 i3], .agg #[.int .i64 0, .int .i64 0, .int .i64 0, .int .i64 0], .int .i64 0, .int .i64 ((d : Int) - 1)] u (fun e w' => Below u.heap.size u w' ∧ ∃ v y0 y1 y2 y3, e = .returned (.tuple #[v, .agg #[.int .i64 y0, .int .i64 y1, .int .i64 y2, .int .i64 y3], .int .i64 ((d : Int) - 1), .int .i64 (23)])) from (RC0.out ((d : Int) - 1) (d - 1) (by omega) (by omega) u hu ww wcp base ho hc).mono fun e w' ⟨h1, v, y0, y1, y2, y3, h2⟩ => ⟨h1, v, y0, y1, y2, y3, by rw [h2, HD1.out.1, HD1.out.2, show ((d - 1 : Nat) : Int) = (d : Int) - 1 by omega]⟩)
          go_cut [18, 19] (fun c8 c9 wx => c8 = .int .i64 ((d : Int) - 1) ∧ c9 = .int .i64 (23) ∧ Below wk2.heap.size wk2 wx)
          case first =>
            go_region_held3 (fun w' => (w'.cell? ⟨w2.heap.size, 0, none⟩ = some (.slice (some ⟨sb, 0, none⟩) 7 7) ∧ w'.cell? ⟨w2.heap.size, 1, none⟩ = some (.slice (some ⟨cb, 0, none⟩) 2 2) ∧ w'.cell? ⟨w2.heap.size, 2, none⟩ = some (.slice (some ⟨f, 0, none⟩) (nf + 1) fc)) ∧ w'.cell? ⟨w.heap.size, 0, none⟩ = some (.int .i64 i0) ∧ w'.cell? ⟨w.heap.size, 1, none⟩ = some (.int .i64 i1) ∧ w'.cell? ⟨w.heap.size, 2, none⟩ = some (.int .i64 i2) ∧ w'.cell? ⟨w.heap.size, 3, none⟩ = some (.int .i64 i3)) (first | exact keepRunC (u1 := wk2) (by repeat (first | (with_reducible exact HB5.out) | (with_reducible exact HB4.out) | (with_reducible exact Below.refl _ _) | (with_reducible refine Below.setCell ?_ (by first | omega | (simp; done) | (simp; omega)) _) | (with_reducible refine Below.drew ?_) | (with_reducible refine Below.alloc ?_ (by first | omega | (simp; done) | (simp; omega)) _))) hlm hlw m0 m1 m2 n0 n1 n2 n3)
              (first
                | (go_at_call 20; refine (LC.out _ (HBK.out.trans (Below.mono (by repeat (first | (with_reducible exact HB5.out) | (with_reducible exact HB4.out) | (with_reducible exact Below.refl _ _) | (with_reducible refine Below.setCell ?_ (by first | omega | (simp; done) | (simp; omega)) _) | (with_reducible refine Below.drew ?_) | (with_reducible refine Below.alloc ?_ (by first | omega | (simp; done) | (simp; omega)) _))) hvk))).mono ?_; rintro e w4 ⟨⟨ww, wcp, rfl, hc1, ho4⟩, hb4⟩; have HO4 := Lib.hid ho4; have HB4 := Lib.hid (show Below wk2.heap.size wk2 w4 from Below.trans (by repeat (first | (with_reducible exact HB5.out) | (with_reducible exact HB4.out) | (with_reducible exact Below.refl _ _) | (with_reducible refine Below.setCell ?_ (by first | omega | (simp; done) | (simp; omega)) _) | (with_reducible refine Below.drew ?_) | (with_reducible refine Below.alloc ?_ (by first | omega | (simp; done) | (simp; omega)) _))) (hb4.mono (by first | omega | (simp; done) | (simp; omega)))); have z4 := hb4.size; (try simp at z4); (try have p4 := dcell hb4 (b := wk2.heap.size) (by first | omega | (simp; done) | (simp; omega))); (try have p4f := dfroz hb4 (b := wk2.heap.size) (by first | omega | (simp; done) | (simp; omega))); clear ho4 hb4)
                | (go_at_call 22; refine (RC.out _ (HBK.out.trans (Below.mono (by repeat (first | (with_reducible exact HB5.out) | (with_reducible exact HB4.out) | (with_reducible exact Below.refl _ _) | (with_reducible refine Below.setCell ?_ (by first | omega | (simp; done) | (simp; omega)) _) | (with_reducible refine Below.drew ?_) | (with_reducible refine Below.alloc ?_ (by first | omega | (simp; done) | (simp; omega)) _))) hvk)) _ _ _ (by first | exact HO4.out | exact own_dr HO4.out | exact HO4.out.alloc _) hc1).mono ?_; rintro e w5 ⟨hb5, v5, y0, y1, y2, y3, rfl⟩; have HB5 := Lib.hid (show Below wk2.heap.size wk2 w5 from Below.trans (by repeat (first | (with_reducible exact HB5.out) | (with_reducible exact HB4.out) | (with_reducible exact Below.refl _ _) | (with_reducible refine Below.setCell ?_ (by first | omega | (simp; done) | (simp; omega)) _) | (with_reducible refine Below.drew ?_) | (with_reducible refine Below.alloc ?_ (by first | omega | (simp; done) | (simp; omega)) _))) (hb5.mono (by first | omega | (simp; done) | (simp; omega)))); have z5 := hb5.size; (try simp at z5); (try have p5 := dcell hb5 (b := wk2.heap.size) (by first | omega | (simp; done) | (simp; omega))); (try have p5f := dfroz hb5 (b := wk2.heap.size) (by first | omega | (simp; done) | (simp; omega))); (try have p6 := dcell hb5 (b := w4.heap.size) (by first | omega | (simp; done) | (simp; omega))); (try have p6f := dfroz hb5 (b := w4.heap.size) (by first | omega | (simp; done) | (simp; omega))); clear hb5))
            all_goals (try go_wp2_with fail)
            all_goals go_meet
            all_goals exact ⟨rfl, rfl, (by repeat (first | (with_reducible exact HB5.out) | (with_reducible exact Below.refl _ _) | (with_reducible refine Below.setCell ?_ (by first | omega | (simp; done) | (simp; omega)) _) | (with_reducible refine Below.drew ?_) | (with_reducible refine Below.alloc ?_ (by first | omega | (simp; done) | (simp; omega)) _)))⟩
          case rest =>
            obtain ⟨rfl, rfl, hbx⟩ := hcut
            obtain ⟨wk3, hnw⟩ : ∃ x : World, x = wc := ⟨_, rfl⟩
            subst hnw
            have hvk2 := hbx.size
            have HBK2 := Lib.hid (HBK.out.trans (hbx.mono hvk))
            replace m0 := (dcell hbx hlm 0).trans m0
            replace m1 := (dcell hbx hlm 1).trans m1
            replace m2 := (dcell hbx hlm 2).trans m2
            replace n0 := (dcell hbx hlw 0).trans n0
            replace n1 := (dcell hbx hlw 1).trans n1
            replace n2 := (dcell hbx hlw 2).trans n2
            replace n3 := (dcell hbx hlw 3).trans n3
            replace hlm : w2.heap.size < wk3.heap.size := Nat.lt_of_lt_of_le hlm hvk2
            replace hlw : w.heap.size < wk3.heap.size := Nat.lt_of_lt_of_le hlw hvk2
            replace hvk : wv.heap.size ≤ wk3.heap.size := Nat.le_trans hvk hvk2
            replace HBK := HBK2
            clear HBK2 hvk2 hbx RC
            go_wp2_with fail
            have RC := Lib.hid (fun (u : World) (hu : Below wv.heap.size wv u) (ww wcp base : Nat) (ho : u.ownsRow base 3 1 (.slice (some ⟨ww, 0, none⟩) zs.length wcp) zs.length (zs.map (Value.int .i64))) (hc : zs.length ≤ wcp) => show Calls Tryd.prog 22 #[.agg #[.slice (some ⟨sb, 0, none⟩) 7 7, .slice (some ⟨cb, 0, none⟩) 2 2, .slice (some ⟨f, 0, none⟩) (nf + 1) fc], .slice (some ⟨ww, 0, none⟩) zs.length wcp, .agg #[.int .i64 i0, .int .i64 i1, .int .i64 i2, .int .i64 i3], .agg #[.int .i64 0, .int .i64 0, .int .i64 0, .int .i64 0], .int .i64 0, .int .i64 (501 + (q5 : Int))] u (fun e w' => Below u.heap.size u w' ∧ ∃ v y0 y1 y2 y3, e = .returned (.tuple #[v, .agg #[.int .i64 y0, .int .i64 y1, .int .i64 y2, .int .i64 y3], .int .i64 ((d : Int)), .int .i64 (x)])) from (RC0.out (501 + (q5 : Int)) (501 + q5) (by omega) (by omega) u hu ww wcp base ho hc).mono fun e w' ⟨h1, v, y0, y1, y2, y3, h2⟩ => ⟨h1, v, y0, y1, y2, y3, by rw [h2, HDM.out.1, HDM.out.2]⟩)
            go_cut [22, 23] (fun c8 c9 wx => c8 = .int .i64 ((d : Int)) ∧ c9 = .int .i64 (x) ∧ Below wk3.heap.size wk3 wx)
            case first =>
              go_region_held3 (fun w' => (w'.cell? ⟨w2.heap.size, 0, none⟩ = some (.slice (some ⟨sb, 0, none⟩) 7 7) ∧ w'.cell? ⟨w2.heap.size, 1, none⟩ = some (.slice (some ⟨cb, 0, none⟩) 2 2) ∧ w'.cell? ⟨w2.heap.size, 2, none⟩ = some (.slice (some ⟨f, 0, none⟩) (nf + 1) fc)) ∧ w'.cell? ⟨w.heap.size, 0, none⟩ = some (.int .i64 i0) ∧ w'.cell? ⟨w.heap.size, 1, none⟩ = some (.int .i64 i1) ∧ w'.cell? ⟨w.heap.size, 2, none⟩ = some (.int .i64 i2) ∧ w'.cell? ⟨w.heap.size, 3, none⟩ = some (.int .i64 i3)) (first | exact keepRunC (u1 := wk3) (by repeat (first | (with_reducible exact HB5.out) | (with_reducible exact HB4.out) | (with_reducible exact Below.refl _ _) | (with_reducible refine Below.setCell ?_ (by first | omega | (simp; done) | (simp; omega)) _) | (with_reducible refine Below.drew ?_) | (with_reducible refine Below.alloc ?_ (by first | omega | (simp; done) | (simp; omega)) _))) hlm hlw m0 m1 m2 n0 n1 n2 n3)
                (first
                  | (go_at_call 21; (with_reducible refine (W5.out _).mono ?_); rintro e _ ⟨rfl, rfl⟩)
                  | (go_at_call 20; refine (LC.out _ (HBK.out.trans (Below.mono (by repeat (first | (with_reducible exact HB5.out) | (with_reducible exact HB4.out) | (with_reducible exact Below.refl _ _) | (with_reducible refine Below.setCell ?_ (by first | omega | (simp; done) | (simp; omega)) _) | (with_reducible refine Below.drew ?_) | (with_reducible refine Below.alloc ?_ (by first | omega | (simp; done) | (simp; omega)) _))) hvk))).mono ?_; rintro e w4 ⟨⟨ww, wcp, rfl, hc1, ho4⟩, hb4⟩; have HO4 := Lib.hid ho4; have HB4 := Lib.hid (show Below wk3.heap.size wk3 w4 from Below.trans (by repeat (first | (with_reducible exact HB5.out) | (with_reducible exact HB4.out) | (with_reducible exact Below.refl _ _) | (with_reducible refine Below.setCell ?_ (by first | omega | (simp; done) | (simp; omega)) _) | (with_reducible refine Below.drew ?_) | (with_reducible refine Below.alloc ?_ (by first | omega | (simp; done) | (simp; omega)) _))) (hb4.mono (by first | omega | (simp; done) | (simp; omega)))); have z4 := hb4.size; (try simp at z4); (try have p4 := dcell hb4 (b := wk3.heap.size) (by first | omega | (simp; done) | (simp; omega))); (try have p4f := dfroz hb4 (b := wk3.heap.size) (by first | omega | (simp; done) | (simp; omega))); clear ho4 hb4)
                  | (go_at_call 22; refine (RC.out _ (HBK.out.trans (Below.mono (by repeat (first | (with_reducible exact HB5.out) | (with_reducible exact HB4.out) | (with_reducible exact Below.refl _ _) | (with_reducible refine Below.setCell ?_ (by first | omega | (simp; done) | (simp; omega)) _) | (with_reducible refine Below.drew ?_) | (with_reducible refine Below.alloc ?_ (by first | omega | (simp; done) | (simp; omega)) _))) hvk)) _ _ _ (by first | exact HO4.out | exact own_dr HO4.out | exact HO4.out.alloc _) hc1).mono ?_; rintro e w5 ⟨hb5, v5, y0, y1, y2, y3, rfl⟩; have HB5 := Lib.hid (show Below wk3.heap.size wk3 w5 from Below.trans (by repeat (first | (with_reducible exact HB5.out) | (with_reducible exact HB4.out) | (with_reducible exact Below.refl _ _) | (with_reducible refine Below.setCell ?_ (by first | omega | (simp; done) | (simp; omega)) _) | (with_reducible refine Below.drew ?_) | (with_reducible refine Below.alloc ?_ (by first | omega | (simp; done) | (simp; omega)) _))) (hb5.mono (by first | omega | (simp; done) | (simp; omega)))); have z5 := hb5.size; (try simp at z5); (try have p5 := dcell hb5 (b := wk3.heap.size) (by first | omega | (simp; done) | (simp; omega))); (try have p5f := dfroz hb5 (b := wk3.heap.size) (by first | omega | (simp; done) | (simp; omega))); (try have p6 := dcell hb5 (b := w4.heap.size) (by first | omega | (simp; done) | (simp; omega))); (try have p6f := dfroz hb5 (b := w4.heap.size) (by first | omega | (simp; done) | (simp; omega))); clear hb5))
              all_goals (try go_wp2_with fail)
              all_goals go_meet
              all_goals exact ⟨rfl, rfl, (by repeat (first | (with_reducible exact HB5.out) | (with_reducible exact Below.refl _ _) | (with_reducible refine Below.setCell ?_ (by first | omega | (simp; done) | (simp; omega)) _) | (with_reducible refine Below.drew ?_) | (with_reducible refine Below.alloc ?_ (by first | omega | (simp; done) | (simp; omega)) _)))⟩
            case rest =>
              obtain ⟨rfl, rfl, hbx⟩ := hcut
              have HBF := Lib.hid (HBV.out.trans ((HBK.out.trans (hbx.mono hvk)).mono (Nat.le_of_lt hlwv)))
              clear LC RC0 RC m0 m1 m2 n0 n1 n2 n3 hbx
              go_wp2_with fail
              go_ret
              exact ⟨rfl, HBF.out⟩
  · have FW := Lib.hid (fun W => by have h := few12_any A0 len0 cap0 W (by omega); rw [decide_eq_false hfew] at h; exact h)
    clear c0 w0
    go_enter Tryd.func16, Tryd.ntmps16
    go_wp2_with (first | (go_at_call 17; refine (KN.out _).mono ?_; rintro e w1 ⟨rfl, hb1⟩; have HB1 := Lib.hid (show Below w.heap.size w w1 from ((Below.refl _ w).alloc (Nat.le_refl _) _).trans (hb1.mono (by simp))); obtain ⟨o0, o1, o2, o3, -, -, -, -⟩ := box_new4 hb1; have hz1 := hb1.size; (try simp at hz1); clear hb1) | (go_at_call 18; refine (FW.out _).mono ?_; rintro e _ ⟨rfl, rfl⟩))
    go_ret
    exact ⟨rfl, HB1.out⟩
end Go.Proofs.YtngobbbinacomaaDoor
