/- Chapter 13: Ctu and Ton, the program's and the document's, as what they make of six numbers. -/
import Derived.Test.YtngobbbinacomaaDoorVB13
import Derived.Test.YtngobbbinacomaaDoorVC13
import Derived.Test.YtngobbbinacomaaDoorVEq13
namespace Go.Proofs.YtngobbbinacomaaDoor.c13
open Go.Proofs.YtngobbbinacomaaDoor
open Go.RowKit
set_option linter.unusedVariables false

/-- The counter's count behind a run. -/
def ctuV (c0 c1 c4 c5 : Int) : Int := if c1 = 1 then 0 else if c0 = 1 ∧ c5 = 0 ∧ c4 < 2147483647 then IntKind.i64.wrap (c4 + 1) else c4

theorem crun_any (b : Nat) (c0 c1 c2 c3 c4 c5 : Int) (w : World) (h : Six w b c0 c1 c2 c3 c4 c5) :
    Calls Tryd.prog 116 #[.pointer (some ⟨b, 0, none⟩)] w fun e w' => e = .returned (.tuple #[]) ∧
      Six w' b c0 c1 c2 (bit (decide (c2 ≤ ctuV c0 c1 c4 c5))) (ctuV c0 c1 c4 c5) c0 ∧ w.grownBy w' (some b) := by
  by_cases h1 : c1 = 1
  · subst h1
    have e : ctuV c0 1 c4 c5 = 0 := by simp [ctuV]
    rw [e]
    exact crun_reset b c0 c2 c3 c4 c5 w h
  · have h1' : (c1 == 1) = false := by simpa using h1
    by_cases h0 : c0 = 1
    · subst h0
      by_cases h5 : c5 = 0
      · subst h5
        by_cases h4 : c4 < 2147483647
        · have e : ctuV 1 c1 c4 0 = IntKind.i64.wrap (c4 + 1) := by simp [ctuV, h1, h4]
          rw [e]
          exact crun_count b c1 c2 c3 c4 w h h1' h4
        · have e : ctuV 1 c1 c4 0 = c4 := by simp [ctuV, h1, h4]
          rw [e]
          exact crun_top b c1 c2 c3 c4 w h h1' h4
      · have e : ctuV 1 c1 c4 c5 = c4 := by simp [ctuV, h1, h5]
        rw [e]
        exact crun_held b c1 c2 c3 c4 c5 w h h1' (by simpa using h5)
    · have e : ctuV c0 c1 c4 c5 = c4 := by simp [ctuV, h1, h0]
      rw [e]
      exact crun_low b c0 c1 c2 c3 c4 c5 w h h1' (by simpa using h0)

theorem Six.other {w w1 : World} {b b' : Nat} {c0 c1 c2 c3 c4 c5 : Int} (hg : w.grownBy w1 (some b')) (hb : b < w.heap.size) (hne : b ≠ b') (h : Six w b c0 c1 c2 c3 c4 c5) : Six w1 b c0 c1 c2 c3 c4 c5 := by
  have e := hg.block b hb (by simpa using hne)
  have ec : ∀ o, w1.cell? ⟨b, o, none⟩ = w.cell? ⟨b, o, none⟩ := fun o => World.cell?_of_block (w := w) e
  have ef : ∀ o, w1.frozen? ⟨b, o, none⟩ = w.frozen? ⟨b, o, none⟩ := fun o => World.frozen?_of_block (w := w) e
  obtain ⟨k0, k1, k2, k3, k4, k5, f0, f1, f2, f3, f4, f5⟩ := h
  exact ⟨(ec _).trans k0, (ec _).trans k1, (ec _).trans k2, (ec _).trans k3, (ec _).trans k4, (ec _).trans k5, (ef _).trans f0, (ef _).trans f1, (ef _).trans f2, (ef _).trans f3, (ef _).trans f4, (ef _).trans f5⟩

set_option maxHeartbeats 800000 in
theorem ctu_any (c0 c1 c2 c3 c4 c5 : Int) (w : World) :
    Calls Tryd.prog 105 #[.agg #[.int .i64 c0, .int .i64 c1, .int .i64 c2, .int .i64 c3, .int .i64 c4, .int .i64 c5]] w fun e w' =>
      e = .returned (.agg #[.int .i64 c0, .int .i64 c1, .int .i64 c2, .int .i64 (bit (decide (c2 ≤ ctuV c0 c1 c4 c5))), .int .i64 (ctuV c0 c1 c4 c5), .int .i64 c0]) ∧ Below w.heap.size w w' := by
  by_cases hz : c0 = 0 ∧ c1 = 0 ∧ c2 = 0 ∧ c3 = 0 ∧ c4 = 0 ∧ c5 = 0
  · obtain ⟨rfl, rfl, rfl, rfl, rfl, rfl⟩ := hz
    have E : ∀ w, (Op.equalIn 10000 60 (.agg #[.int .i64 0, .int .i64 0, .int .i64 0, .int .i64 0, .int .i64 0, .int .i64 0]) (.agg #[.int .i64 0, .int .i64 0, .int .i64 0, .int .i64 0, .int .i64 0, .int .i64 0])).run Tryd.prog w = .ok true w := fun w => eq6 0 0 0 0 0 0 0 0 0 0 0 0 w
    go_enter Tryd.func105, Tryd.ntmps105
    go_wp2
    refine bodyPost_ret (v := .agg #[.int .i64 0, .int .i64 0, .int .i64 0, .int .i64 1, .int .i64 0, .int .i64 0]) (by simp [results, Tryd.results105, go_sem]) rfl ⟨rfl, ?_⟩
    exact (by repeat (first | exact Below.refl _ _ | refine Below.alloc ?_ (by simp; omega) _ | refine Below.alloc ?_ (by simp) _ | refine Below.setCell ?_ (by simp; omega) _ | refine Below.setCell ?_ (by simp) _))
  · have E : ∀ w, (Op.equalIn 10000 60 (.agg #[.int .i64 c0, .int .i64 c1, .int .i64 c2, .int .i64 c3, .int .i64 c4, .int .i64 c5]) (.agg #[.int .i64 0, .int .i64 0, .int .i64 0, .int .i64 0, .int .i64 0, .int .i64 0])).run Tryd.prog w = .ok false w := fun w => by
      rw [eq6, decide_eq_false hz]
    clear hz
    go_enter Tryd.func105, Tryd.ntmps105
    go_wp2_with fail
    refine (crun_any (w.heap.size + 1 + 1) c0 c1 c2 c3 c4 c5 _ ?_).mono ?_
    · constructor <;> go_simp
    rintro e w1 ⟨rfl, hs, hg⟩
    obtain ⟨k0, k1, k2, k3, k4, k5, f0, f1, f2, f3, f4, f5⟩ := hs
    obtain ⟨r0, r1, r2, r3, r4, r5, g0, g1, g2, g3, g4, g5⟩ : Six w1 (w.heap.size + 1) 0 0 0 0 0 0 := Six.other hg (by simp) (by simp) (by constructor <;> go_simp)
    have hb := (((((Below.refl w.heap.size w).alloc (Nat.le_refl _) _).alloc (by simp) _).alloc (by simp; omega) _).grown hg (by simp; omega) (by simp; omega))
    clear hg
    have hb := Lib.hid hb
    go_wp2
    refine bodyPost_ret (v := .agg #[.int .i64 c0, .int .i64 c1, .int .i64 c2, .int .i64 (bit (decide (c2 ≤ ctuV c0 c1 c4 c5))), .int .i64 (ctuV c0 c1 c4 c5), .int .i64 c0]) (by simp [results, Tryd.results105, go_sem, r0, r1, r2, r3, r4, r5]) rfl ⟨rfl, ?_⟩
    exact Below.setCell (Below.setCell (Below.setCell (Below.setCell (Below.setCell (Below.setCell hb.out (by simp) _) (by simp) _) (by simp) _) (by simp) _) (by simp) _) (by simp) _
end Go.Proofs.YtngobbbinacomaaDoor.c13
