/- Chapter 14: a sound program run, for VmRuns: copies of what XTH14 and XTJ14 hold ahead of their walks. -/
import Derived.Test.YtngobbbinacomaaDoorQ29
import Derived.Test.YtngobbbinacomaaDoorQ30
import Derived.Test.YtngobbbinacomaaDoorQ31
import Derived.Test.YtngobbbinacomaaDoorQ32
import Derived.Deep.QuietTactic
import Derived.BigRegion
import Derived.Deep.RegionHeld3
import Derived.Deep.DeepCutAuto
import Derived.BigQuiet
namespace Go.Proofs.YtngobbbinacomaaDoor
open Go.RowKit Go.Proofs.YtngobbbinacomaaDoor.c11 Go.Proofs.YtngobbbinacomaaDoor.c10 Go.Proofs.YtngobbbinacomaaDoor.c13
set_option linter.unusedVariables false
set_option linter.unusedSimpArgs false
attribute [local go_sem ↓] Go.wp_at_zero Go.wp_at_succ
theorem few12_any (A : Option Addr) (n c : Nat) (w : World) (hn : n ≤ 9223372036854775807) : Calls Tryd.prog 18 #[.slice A n c] w fun e w' => e = .returned (.bool (decide (n ≤ 80))) ∧ w = w' := by
  by_cases h : n ≤ 80
  · have h1 : (n : Int) ≤ 80 := by omega
    go_enter Tryd.func18, Tryd.ntmps18
    go_wp2
    go_ret
    exact ⟨qrb (by simp [h]), rfl⟩
  · have h1 : ¬ (n : Int) ≤ 80 := by omega
    go_enter Tryd.func18, Tryd.ntmps18
    go_wp2
    go_ret
    exact ⟨qrb (by simp [h]), rfl⟩
/-- The environment of a sound program. -/
def envS (longer : Bool) (sb cb f fc : Nat) (codes : List (List Int)) (vs : List Value) (i0 i1 i2 i3 now : Int) : Env := envF (some ⟨sb, 0, none⟩) 7 (symsP longer) [7, -1] (some ⟨cb, 0, none⟩) 2 codes vs f fc i0 i1 i2 i3 now none 0
theorem symsP_len (longer : Bool) : ∀ c ∈ cellsOf (symsP longer), c.len ≤ 1000000 := by
  intro c hc
  have h : (cellsOf (symsP longer)).all (fun c => decide (c.len ≤ 1000000)) = true := by cases longer <;> kernel_rfl
  exact of_decide_eq_true (List.all_eq_true.1 h c hc)
theorem CodeMade.func {cells : List CellD} {funcs : Int} {b : List Int} (h : CodeMade cells funcs b) : Func12 cells b := by
  obtain ⟨sp, bs, st, h1, h2, h3⟩ := h
  exact ⟨funcs, sp, bs, st, h1, h2, h3⟩
theorem below_drewM {B : Nat} {a w : World} (h : Below B a w) (n : Nat) : Below B a (w.drewN n) := h.trans ⟨rfl, rfl, rfl, Nat.le_refl _, fun _ _ => rfl⟩
set_option maxHeartbeats 4000000 in
set_option maxRecDepth 100000 in
theorem ints_same (a b c d n : Nat) (xs : List Int) (w : World) (ha : a < w.heap.size) (hb : b < w.heap.size) (hl : xs.length = n) (hn : (n : Int) ≤ c ∧ (n : Int) ≤ d) (hc : (c : Int) ≤ 9223372036854775807 ∧ (d : Int) ≤ 9223372036854775807)
    (h1 : ∀ (j : Nat) x, xs[j]? = some x → w.cell? ⟨a, j, none⟩ = some (.int .i64 x)) (h2 : ∀ (j : Nat) x, xs[j]? = some x → w.cell? ⟨b, j, none⟩ = some (.int .i64 x)) :
    Calls Tryd.prog 24 #[.slice (some ⟨a, 0, none⟩) n c, .slice (some ⟨b, 0, none⟩) n d] w fun e w' => e = .returned (.bool true) ∧ Below w.heap.size w w' := by
  have H1 := Lib.hid h1
  have H2 := Lib.hid h2
  obtain ⟨hn1, hn2⟩ := hn
  obtain ⟨hc1, hc2⟩ := hc
  clear h1 h2
  go_enter Tryd.func24, Tryd.ntmps24
  go_wp2_with fail
  go_loopw [5] (fun i wr => LoopRel w n i wr) (fun i _ => n - (intOf i).toNat)
  case atStart => exact ⟨0, rfl, Nat.zero_le _, Below.refl _ _⟩
  case round =>
    obtain ⟨j, rfl, hj, hB⟩ := hrel
    have HB := Lib.hid hB
    by_cases hjl : j < n
    · have hjl' : (j : Int) < n := by omega
      obtain ⟨x, hx⟩ : ∃ x, xs[j]? = some x := ⟨_, List.getElem?_eq_getElem (by omega)⟩
      have p1 : wr.cell? ⟨a, j, none⟩ = some (.int .i64 x) := (dcell hB ha j).trans (H1.out j x hx)
      have p2 : wr.cell? ⟨b, j, none⟩ = some (.int .i64 x) := (dcell hB hb j).trans (H2.out j x hx)
      clear hB hx
      go_wp2_with fail
      go_quiet (fail)
      go_wp2_with fail
      go_roundw
      case rel => exact ⟨j + 1, rfl, by omega, by repeat (first | (with_reducible exact HB.out) | (with_reducible refine below_drewM ?_ _) | (with_reducible refine Below.drew ?_))⟩
      case measure => simp [intOf]; omega
    · have hje : j = n := by omega
      subst hje
      clear hB
      go_wp2_with fail
      go_ret
      exact ⟨rfl, HB.out⟩
theorem own_at {w : World} {base : Nat} {e : TypeId} {g n cap : Nat} {l : List Int} (h : w.ownsRow base e 1 (.slice (some ⟨g, 0, none⟩) n cap) n (l.map (Value.int .i64))) (j : Nat) (x : Int) (hx : l[j]? = some x) : w.cell? ⟨g, j, none⟩ = some (.int .i64 x) := by
  have hj : j < n * 1 := by have h1 := (List.getElem?_eq_some_iff.1 hx).1; have h2 := h.1; simp at h2; omega
  rw [h.cellAt j hj, List.getElem?_map, hx]
  rfl
theorem ints_nil (w : World) : Calls Tryd.prog 24 #[.slice none 0 0, .slice none 0 0] w fun e w' => e = .returned (.bool true) ∧ Below w.heap.size w w' := by
  go_enter Tryd.func24, Tryd.ntmps24
  go_wp2_with fail
  go_loopw [5] (fun i wr => i = .int .i64 0 ∧ wr = w) (fun _ _ => 0)
  case atStart => exact ⟨rfl, rfl⟩
  case round =>
    obtain ⟨rfl, rfl⟩ := hrel
    go_wp2
    go_ret
    exact ⟨rfl, Below.refl _ _⟩
/-- What a run leaves as cells: a row, or none. -/
def VP (ok : Option (List Int)) (v : Value) (W : World) : Prop := match ok with
  | some cs => W.ownsRow 0 3 1 v cs.length (cs.map (Value.int .i64))
  | none => v = .slice none 0 0
theorem VP.below {ok : Option (List Int)} {v : Value} {W W' : World} (h : VP ok v W) (hb : Below W.heap.size W W') : VP ok v W' := by
  cases ok with
  | none => exact h
  | some cs => exact own_bel h hb
theorem VP.alloc {ok : Option (List Int)} {v : Value} {W : World} (h : VP ok v W) (o : Obj) : VP ok v (W.alloc o) := h.below (alloc_bel W o)
theorem VP.drew {ok : Option (List Int)} {v : Value} {W : World} (h : VP ok v W) : VP ok v W.drew := by
  cases ok with
  | none => exact h
  | some cs => exact own_dr h
theorem VP.far {ok : Option (List Int)} {v : Value} {W : World} (h : VP ok v W) {a : Addr} (ha : v.ownBlock ≠ some a.block) (u : Value) : VP ok v (W.setCell a u) := by
  cases ok with
  | none => exact h
  | some cs => exact own_setFar h ha u
/-- A run's answer, told by letters. -/
def RunPost (ok : Option (List Int)) (P0 P1 P2 P3 U X : Int) (u : World) (e : Ending) (w' : World) : Prop :=
  Below u.heap.size u w' ∧ ∃ v, e = .returned (.tuple #[v, .agg #[.int .i64 P0, .int .i64 P1, .int .i64 P2, .int .i64 P3], .int .i64 U, .int .i64 X]) ∧ VP ok v w' ∧ ∀ b, b < u.heap.size ∨ w'.heap.size ≤ b → v.ownBlock ≠ some b
/-- The letters of a run. -/
def okOf (R : St × Int) : Option (List Int) := if R.2 = 0 then some R.1.cells else none
def outOf (R : St × Int) (x : Int) : Int := if R.2 = 0 then x else 0
theorem post_of {R : St × Int} {u w' : World} {e : Ending} (h : Below u.heap.size u w' ∧ ∃ v o0 o1 o2 o3, e = .returned (.tuple #[v, .agg #[.int .i64 o0, .int .i64 o1, .int .i64 o2, .int .i64 o3], .int .i64 (R.1.used : Nat), .int .i64 R.2]) ∧
    ((R.2 = 0 ∧ o0 = R.1.o0 ∧ o1 = R.1.o1 ∧ o2 = R.1.o2 ∧ o3 = R.1.o3 ∧ w'.ownsRow u.heap.size 3 1 v R.1.cells.length (R.1.cells.map (Value.int .i64))) ∨ (R.2 ≠ 0 ∧ v = .slice none 0 0 ∧ o0 = 0 ∧ o1 = 0 ∧ o2 = 0 ∧ o3 = 0))) :
    RunPost (okOf R) (outOf R R.1.o0) (outOf R R.1.o1) (outOf R R.1.o2) (outOf R R.1.o3) (R.1.used : Nat) R.2 u e w' := by
  obtain ⟨hb, v, o0, o1, o2, o3, he, h⟩ := h
  rcases h with ⟨h0, rfl, rfl, rfl, rfl, hv⟩ | ⟨h0, rfl, rfl, rfl, rfl, rfl⟩
  · refine ⟨hb, v, ?_, ?_, fun b hbb e => ?_⟩
    · rw [he]; simp [outOf, h0]
    · unfold okOf; rw [if_pos h0]; exact own_mono8 hv (Nat.zero_le _)
    · have := hv.lt b e; omega
  · refine ⟨hb, .slice none 0 0, ?_, ?_, fun b _ e => by simp [Value.ownBlock] at e⟩
    · rw [he]; simp [outOf, h0]
    · unfold okOf; rw [if_neg h0]; rfl
theorem cell_lt {w : World} {g o : Nat} {v : Value} (h : w.cell? ⟨g, o, none⟩ = some v) : g < w.heap.size := by
  rcases Nat.lt_or_ge g w.heap.size with h1 | h1
  · exact h1
  · rw [World.cell?] at h; simp [Array.getElem?_eq_none h1] at h
end Go.Proofs.YtngobbbinacomaaDoor
