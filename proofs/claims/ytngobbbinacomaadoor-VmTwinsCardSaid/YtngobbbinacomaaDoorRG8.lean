/- The document's chapter 12: what an instruction bears may be; places; two stacks; where it goes on. -/
import Derived.Test.YtngobbbinacomaaDoorRF8
import Derived.Test.YtngobbbinacomaaDoorMA10
import Derived.Test.YtngobbbinacomaaDoorC14
namespace Go.Proofs.YtngobbbinacomaaDoor
open Go.RowKit Go.Proofs.YtngobbbinacomaaDoor.c11 Go.Proofs.YtngobbbinacomaaDoor.c10
set_option linter.unusedVariables false
set_option linter.unusedSimpArgs false
attribute [local go_sem ↓] Go.wp_at_zero Go.wp_at_succ

/-- May what an instruction bears be? -/
def bearsB (nc nf : Nat) (cells : List CellD) (s a n : Int) : Bool :=
  if s = 1 then isVal a && decide (wrapK a n = n)
  else if s = 2 then decide (a < nc)
  else if s = 3 ∨ s = 4 then decide (a < cells.length)
  else if s = 5 ∨ s = 6 then decide (a < cells.length) && decide ((cellD cells a).len ≠ 0)
  else if s = 20 then decide (a < nf)
  else if s = 23 then isVal a
  else if s = 24 ∨ s = 25 then decide (a < 4)
  else if s = 27 then decide (a < cells.length) && decide ((cellD cells a).block ≠ 0)
  else true

set_option maxHeartbeats 8000000 in
set_option maxRecDepth 100000 in
theorem rbears_ok (SA Ca Fa A : Option Addr) (ls SC nc Cc nf Fc c : Nat) (cells : List CellD) (s n a0 a1 : Int) (a : Nat) (w : World) (hr : Row w w.heap.size 6 A cells.length (cellRow cells)) (hc : cells.length ≤ c) (hcm : c ≤ 9223372036854775807) (h : bearsB nc nf cells s a n = true) :
    Calls Tryd.prog 63 #[.agg #[.slice SA ls SC, .slice Ca nc Cc, .slice Fa nf Fc], .slice A cells.length c, .agg #[.int .i64 a0, .int .i64 a1, .int .i64 s, .int .i64 a, .int .i64 n]] w fun e w' => e = .returned (.int .i64 0) ∧ Below w.heap.size w w' := by
  have hB : Below w.heap.size w ((w.alloc (.cells #[.slice SA ls SC, .slice Ca nc Cc, .slice Fa nf Fc] 29)).alloc (.cells #[.int .i64 a0, .int .i64 a1, .int .i64 s, .int .i64 a, .int .i64 n] 67)) := ((Below.refl _ w).alloc (Nat.le_refl _) _).alloc (by simp) _
  have HB := Lib.hid hB
  clear hB
  by_cases h27 : s = 5 ∨ s = 6 ∨ s = 27
  · have hx : ∃ x, cells[a]? = some x ∧ (s = 5 ∨ s = 6 → x.len ≠ 0) ∧ (s = 27 → x.block ≠ 0) := by
      have hlt : a < cells.length := by
        unfold bearsB at h
        rcases h27 with rfl | rfl | rfl <;> (simp at h; omega)
      refine ⟨cells[a], List.getElem?_eq_getElem hlt, ?_, ?_⟩
      · intro hs
        unfold bearsB at h
        rcases hs with rfl | rfl <;> (simp [cellD] at h; rw [if_neg (by omega)] at h; simpa [List.getD_eq_getElem?_getD, List.getElem?_eq_getElem hlt] using h.2)
      · rintro rfl
        unfold bearsB at h
        simp [cellD] at h
        rw [if_neg (by omega)] at h
        simpa [List.getD_eq_getElem?_getD, List.getElem?_eq_getElem hlt] using h.2
    obtain ⟨x, hx, h5, h27'⟩ := hx
    have hlt := (List.getElem?_eq_some_iff.1 hx).1
    obtain ⟨b, off, hA, hb, hcc⟩ := hr.2 (by omega)
    have e4 : w.cell? ⟨b, off + a * 6 + 4, none⟩ = some (.int .i64 x.len) := by
      have h := hcc (a * 6 + 4) _ ((flat_get cellCells 6 cellCells_length cells a 4 x hx (by omega)).trans rfl)
      rw [← Nat.add_assoc] at h
      exact h
    have e5 : w.cell? ⟨b, off + a * 6 + 5, none⟩ = some (.int .i64 x.block) := by
      have h := hcc (a * 6 + 5) _ ((flat_get cellCells 6 cellCells_length cells a 5 x hx (by omega)).trans rfl)
      rw [← Nat.add_assoc] at h
      exact h
    subst hA
    have hlt' : (a : Int) < cells.length := by omega
    have hlc : (cells.length : Int) ≤ c := by omega
    have hle : decide ((cells.length : Int) ≤ a) = false := decide_eq_false (by omega)
    have hle' : decide (cells.length ≤ a) = false := decide_eq_false (by omega)
    clear hr hcc h hx
    have hz : (s = 5 ∨ s = 6) ∧ (x.len == 0) = false ∨ s = 27 ∧ (x.block == 0) = false := by
      rcases h27 with rfl | rfl | rfl
      · exact .inl ⟨.inl rfl, by simpa using h5 (.inl rfl)⟩
      · exact .inl ⟨.inr rfl, by simpa using h5 (.inr rfl)⟩
      · exact .inr ⟨rfl, by simpa using h27' rfl⟩
    clear h5 h27' h27
    rcases hz with ⟨rfl | rfl, hz⟩ | ⟨rfl, hz⟩
    all_goals
      go_enter Tryd.func63, Tryd.ntmps63
      go_wp2
      go_ret
      exact ⟨rfl, HB.out⟩
  · clear hr
    have n5 : (s == 5) = false := by simp; omega
    have n6 : (s == 6) = false := by simp; omega
    have n27 : (s == 27) = false := by simp; omega
    by_cases h1 : s = 1
    · subst h1
      simp [bearsB] at h
      have V := Lib.hid (fun u => rvalueK_any a u)
      rw [h.1] at V
      have WR := Lib.hid (fun u => rwrap_any a n u)
      rw [h.2] at WR
      clear h
      go_enter Tryd.func63, Tryd.ntmps63
      go_wp2_with (go_at_call 57; refine (V.out _).mono ?_; rintro e _ ⟨rfl, rfl⟩)
      go_region_with (go_at_call 26; refine (WR.out _).mono ?_; rintro e _ ⟨rfl, rfl⟩)
      all_goals (go_wp2_with fail; go_ret; refine ⟨rfl, ?_⟩; repeat (first | exact HB.out | refine Below.drew ?_ | refine below_dN _ ?_))
    by_cases h23 : s = 23
    · subst h23
      simp [bearsB] at h
      have V := Lib.hid (fun u => rvalueK_any a u)
      rw [h] at V
      clear h
      go_enter Tryd.func63, Tryd.ntmps63
      go_wp2_with (go_at_call 57; refine (V.out _).mono ?_; rintro e _ ⟨rfl, rfl⟩)
      go_ret
      exact ⟨rfl, HB.out⟩
    have n1 : (s == 1) = false := by simpa using h1
    have n23 : (s == 23) = false := by simpa using h23
    have hk : (s = 2 → decide ((nc : Int) ≤ a) = false) ∧ (s = 3 ∨ s = 4 → decide ((cells.length : Int) ≤ a) = false) ∧ (s = 20 → decide ((nf : Int) ≤ a) = false) ∧ (s = 24 ∨ s = 25 → decide ((4 : Int) ≤ a) = false) := by
      refine ⟨?_, ?_, ?_, ?_⟩
      · rintro rfl; simp [bearsB] at h; exact decide_eq_false (by omega)
      · rintro (rfl | rfl) <;> (simp [bearsB] at h; exact decide_eq_false (by omega))
      · rintro rfl; simp [bearsB] at h; exact decide_eq_false (by omega)
      · rintro (rfl | rfl) <;> (simp [bearsB] at h; exact decide_eq_false (by omega))
    clear h
    by_cases h2 : s = 2
    · subst h2
      have q := hk.1 rfl
      have q' : decide (nc ≤ a) = false := decide_eq_false (by have := of_decide_eq_false q; omega)
      clear hk
      go_enter Tryd.func63, Tryd.ntmps63
      go_wp2
      go_ret
      exact ⟨rfl, HB.out⟩
    by_cases h3 : s = 3 ∨ s = 4
    · have q := hk.2.1 h3
      have q' : decide (cells.length ≤ a) = false := decide_eq_false (by have := of_decide_eq_false q; omega)
      clear hk
      rcases h3 with rfl | rfl
      all_goals
        go_enter Tryd.func63, Tryd.ntmps63
        go_wp2
        go_ret
        exact ⟨rfl, HB.out⟩
    by_cases h20 : s = 20
    · subst h20
      have q := hk.2.2.1 rfl
      have q' : decide (nf ≤ a) = false := decide_eq_false (by have := of_decide_eq_false q; omega)
      clear hk
      go_enter Tryd.func63, Tryd.ntmps63
      go_wp2
      go_ret
      exact ⟨rfl, HB.out⟩
    by_cases h24 : s = 24 ∨ s = 25
    · have q := hk.2.2.2 h24
      have q' : decide (4 ≤ a) = false := decide_eq_false (by have := of_decide_eq_false q; omega)
      clear hk
      rcases h24 with rfl | rfl
      all_goals
        go_enter Tryd.func63, Tryd.ntmps63
        go_wp2
        go_ret
        exact ⟨rfl, HB.out⟩
    have n2 : (s == 2) = false := by simpa using h2
    have n3 : (s == 3) = false := by simp; omega
    have n4 : (s == 4) = false := by simp; omega
    have n20 : (s == 20) = false := by simpa using h20
    have n24 : (s == 24) = false := by simp; omega
    have n25 : (s == 25) = false := by simp; omega
    clear hk h1 h2 h3 h20 h23 h24 h27
    go_enter Tryd.func63, Tryd.ntmps63
    go_wp2
    go_ret
    exact ⟨rfl, HB.out⟩

/-- The place of the instruction at a byte. -/
def placeF (at_ : Int) : List (Int × Int × Int × Int × Int) → Nat → Int
  | [], _ => -1
  | o :: l, k => if o.1 = at_ then k else placeF at_ l (k + 1)

def PlaceRel (w : World) (L : List (Int × Int × Int × Int × Int)) (at_ : Int) (i : Value) (wr : World) : Prop := ∃ j : Nat, i = .int .i64 j ∧ j ≤ L.length ∧ placeF at_ L 0 = placeF at_ (L.drop j) j ∧ wr = w

set_option maxHeartbeats 4000000 in
set_option maxRecDepth 100000 in
theorem rplace_any (A : Option Addr) (c : Nat) (L : List (Int × Int × Int × Int × Int)) (at_ : Int) (w : World) (hr : Row w w.heap.size 5 A L.length (rowCells L)) (hL : L.length ≤ 1000) :
    Calls Tryd.prog 62 #[.slice A L.length c, .int .i64 at_] w fun e w' => e = .returned (.int .i64 (placeF at_ L 0)) ∧ w' = w := by
  have HR := Lib.hid hr
  have hLI : (L.length : Int) ≤ 1000 := by omega
  clear hr
  go_enter Tryd.func62, Tryd.ntmps62
  go_wp2_with fail
  go_loopw [5] (fun i wr => PlaceRel w L at_ i wr) (fun i _ => L.length - (intOf i).toNat)
  case atStart => exact ⟨0, rfl, Nat.zero_le _, rfl, rfl⟩
  case round =>
    obtain ⟨j, rfl, hj, he, rfl⟩ := hrel
    have HE := Lib.hid he
    clear he
    by_cases hjl : j < L.length
    · have hjl' : (j : Int) < L.length := by omega
      obtain ⟨o, ho⟩ : ∃ o, L[j]? = some o := ⟨_, List.getElem?_eq_getElem hjl⟩
      obtain ⟨b, off, hA, hb, hcc⟩ := HR.out.2 (by omega)
      have e0 : wr.cell? ⟨b, off + j * 5, none⟩ = some (.int .i64 o.1) := hcc (j * 5) _ ((flat_get opCells 5 (fun _ => rfl) L j 0 o ho (by omega)).trans rfl)
      have hd : L.drop j = o :: L.drop (j + 1) := by
        rw [List.drop_eq_getElem_cons hjl]
        congr 1
        exact Option.some.inj ((List.getElem?_eq_getElem hjl).symm.trans ho)
      have hp : placeF at_ (L.drop j) j = if o.1 = at_ then (j : Int) else placeF at_ (L.drop (j + 1)) (j + 1) := by rw [hd]; rfl
      have HP := Lib.hid hp
      subst hA
      clear hcc ho hd hp
      by_cases heq : o.1 = at_
      · have heq' : (o.1 == at_) = true := by simpa using heq
        have HQ := Lib.hid heq
        clear heq
        go_wp2
        go_ret
        exact ⟨qret (by rw [HE.out, HP.out, if_pos HQ.out]), rfl⟩
      · have heq' : (o.1 == at_) = false := by simpa using heq
        have HQ := Lib.hid heq
        clear heq
        go_wp2
        go_roundw
        case rel => exact ⟨j + 1, rfl, by omega, by rw [HE.out, HP.out, if_neg HQ.out], rfl⟩
        case measure => simp [intOf]; omega
    · have hjs : j = L.length := by omega
      subst hjs
      go_wp2
      go_ret
      exact ⟨qret (by rw [HE.out, List.drop_length]; rfl), rfl⟩

set_option maxHeartbeats 4000000 in
set_option maxRecDepth 100000 in
/-- Two stacks that are the same. -/
theorem rmeet_ok (A A' : Option Addr) (c c' : Nat) (xs : List Int) (w : World) (hr : Row w w.heap.size 1 A xs.length (xs.map (Value.int .i64))) (hr' : Row w w.heap.size 1 A' xs.length (xs.map (Value.int .i64))) (hc : xs.length ≤ c) (hc' : xs.length ≤ c') (hx : xs.length ≤ 1000) :
    Calls Tryd.prog 66 #[.slice A xs.length c, .slice A' xs.length c'] w fun e w' => e = .returned (.int .i64 0) ∧ Below w.heap.size w w' := by
  have HR := Lib.hid hr
  have HR' := Lib.hid hr'
  have hcI : (xs.length : Int) ≤ c := by omega
  have hcI' : (xs.length : Int) ≤ c' := by omega
  have hx' : (xs.length : Int) ≤ 1000 := by omega
  clear hr hr'
  go_enter Tryd.func66, Tryd.ntmps66
  go_wp2_with fail
  go_loopw [5] (fun i wr => LoopRel w xs.length i wr) (fun i _ => xs.length - (intOf i).toNat)
  case atStart => exact ⟨0, rfl, Nat.zero_le _, Below.refl _ _⟩
  case round =>
    obtain ⟨j, rfl, hj, hb⟩ := hrel
    have HB := Lib.hid hb
    by_cases hjl : j < xs.length
    · have hjl' : (j : Int) < xs.length := by omega
      obtain ⟨x, hx⟩ : ∃ x, xs[j]? = some x := ⟨_, List.getElem?_eq_getElem hjl⟩
      obtain ⟨b, off, hA, hbl, hcc⟩ := HR.out.2 (by omega)
      obtain ⟨b', off', hA', hbl', hcc'⟩ := HR'.out.2 (by omega)
      have e0 : wr.cell? ⟨b, off + j, none⟩ = some (.int .i64 x) := (dcell hb hbl _).trans (hcc j _ (by simp [hx]))
      have e1 : wr.cell? ⟨b', off' + j, none⟩ = some (.int .i64 x) := (dcell hb hbl' _).trans (hcc' j _ (by simp [hx]))
      subst hA hA'
      clear hcc hcc' hx hb
      go_wp2_with fail
      go_region
      all_goals (go_wp2_with fail; go_roundw; (case rel => (refine ⟨j + 1, rfl, by omega, ?_⟩; repeat (first | exact HB.out | refine Below.drew ?_ | refine below_dN _ ?_))); (case measure => (simp [intOf]; omega)))
    · have hjs : j = xs.length := by omega
      subst hjs
      clear hb
      go_wp2
      go_ret
      exact ⟨rfl, HB.out⟩

/-- Where an instruction goes on. -/
def nextP (s a nx : Int) : List Int := if s = 0 then [] else if s = 18 then [a] else if s = 19 then [nx, a] else [nx]

set_option maxHeartbeats 4000000 in
set_option maxRecDepth 100000 in
theorem rnext_any (a0 nx s a n : Int) (w : World) :
    Calls Tryd.prog 65 #[.agg #[.int .i64 a0, .int .i64 nx, .int .i64 s, .int .i64 a, .int .i64 n]] w (RowBack w.heap.size 1 (nextP s a nx).length ((nextP s a nx).map (Value.int .i64)) w) := by
  by_cases h0 : s = 0
  · subst h0
    go_enter Tryd.func65, Tryd.ntmps65
    go_wp2
    go_ret
    exact ⟨⟨none, 0, rfl, Nat.le_refl _, by omega, Row.nil⟩, (Below.refl _ w).alloc (Nat.le_refl _) _⟩
  by_cases h18 : s = 18
  · subst h18
    go_enter Tryd.func65, Tryd.ntmps65
    go_wp2
    go_ret
    refine ⟨⟨_, 1, rfl, by simp [nextP], by decide, ⟨rfl, fun _ => ⟨_, 0, rfl, by simp, fun j u hu => ?_⟩⟩⟩, ((Below.refl _ w).alloc (Nat.le_refl _) _).alloc (by simp) _⟩
    cases j with
    | succ j => simp [nextP] at hu
    | zero => simp [nextP] at hu; subst hu; go_simp
  by_cases h19 : s = 19
  · subst h19
    go_enter Tryd.func65, Tryd.ntmps65
    go_wp2
    go_ret
    refine ⟨⟨_, 2, rfl, by simp [nextP], by decide, ⟨rfl, fun _ => ⟨_, 0, rfl, by simp, fun j u hu => ?_⟩⟩⟩, ((Below.refl _ w).alloc (Nat.le_refl _) _).alloc (by simp) _⟩
    have hj : j < 2 := by have := (List.getElem?_eq_some_iff.1 hu).1; simpa [nextP] using this
    rcases (show j = 0 ∨ j = 1 by omega) with rfl | rfl <;> (simp [nextP] at hu; subst hu; go_simp)
  · have n0 : (s == 0) = false := by simpa using h0
    have n18 : (s == 18) = false := by simpa using h18
    have n19 : (s == 19) = false := by simpa using h19
    have HN := Lib.hid (show nextP s a nx = [nx] by simp [nextP, h0, h18, h19])
    clear h0 h18 h19
    go_enter Tryd.func65, Tryd.ntmps65
    go_wp2
    go_ret
    rw [HN.out]
    refine ⟨⟨_, 1, rfl, by simp, by decide, ⟨rfl, fun _ => ⟨_, 0, rfl, by simp, fun j u hu => ?_⟩⟩⟩, ((Below.refl _ w).alloc (Nat.le_refl _) _).alloc (by simp) _⟩
    cases j with
    | succ j => simp at hu
    | zero => simp at hu; subst hu; go_simp
end Go.Proofs.YtngobbbinacomaaDoor
