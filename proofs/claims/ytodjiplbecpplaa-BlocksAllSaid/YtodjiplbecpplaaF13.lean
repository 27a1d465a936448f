/- Chapter 13: the chapter's example, and cells of their kinds out of raw numbers. -/
import Derived.Test.YtodjiplbecpplaaE13
import Derived.StillTailTactics
namespace Go.Proofs.Ytodjiplbecpplaa
open Go.RowKit
set_option linter.unusedVariables false
attribute [local go_sem ↓] Go.wp_at_zero Go.wp_at_succ

theorem w64_32 (c : Int) : wrap64 (wrap32 c) = wrap32 c := IntWalk.wrap64_in _ ⟨by unfold wrap32; omega, by unfold wrap32; omega⟩

theorem still_of {P : Program} {f : FuncId} {args : Array Value} {w : World} {v : Value} (h : Calls P f args w fun e w' => e = .returned v ∧ w = w') :
    Calls P f args w fun e w' => e = .returned v ∧ w' = w := h.mono fun _ _ ⟨he, hw⟩ => ⟨he, hw.symm⟩

theorem region_tail {P : Program} {id : Nat} {Q : Exit → Act → World → Prop} {a : Act} {w : World} {l : List Oper} (n : Nat) (hm : P.follows .mixedOrders = true) (hB : Region.lexTailB .any l.toArray n = true)
    (h : wpStill P l.toArray w.drew (fun a' => wpList P l.toArray Q (l.drop n) a' w.drew) (l.take n) a) : (Code.region id l.toArray true).wp P Q a w := wp_region_still_tail n hm hB h

set_option maxHeartbeats 400000 in
theorem known_any (w : World) :
    Calls Try.prog 10 #[] w fun e w' => e = .returned (.bool true) ∧ Below w.heap.size w w' := by
  have c := fun W : World => ctu_any 1 0 5 0 2 0 W (by decide)
  have e1 : ctuV 1 0 2 0 = 3 := rfl
  have e2 : bit (decide ((5 : Int) ≤ 3)) = 0 := rfl
  rw [e1, e2] at c
  clear e1 e2
  go_enter Try.func10, Try.ntmps10
  go_wp2_with fail
  refine (c _).mono ?_
  rintro e w1 ⟨rfl, hb⟩
  have hb := Lib.hid hb
  go_wp2
  go_ret
  exact ⟨rfl, hb.out.alloc hb.out.size _⟩

set_option maxHeartbeats 800000 in
theorem timer_any (c0 c1 c2 c3 c4 c5 : Int) (w : World) :
    Calls Try.prog 14 #[.agg #[.int .i64 c0, .int .i64 c1, .int .i64 c2, .int .i64 c3, .int .i64 c4, .int .i64 c5]] w fun e w' =>
      e = .returned (.agg #[.int .i64 (c0 % 2), .int .i64 c1, .int .i64 (c2 % 2), .int .i64 c3, .int .i64 c4, .int .i64 (c5 % 2)]) ∧ Below w.heap.size w w' := by
  go_enter Try.func14, Try.ntmps14
  go_wp2
  refine region_tail 16 (by kernel_rfl) (by kernel_rfl) ?_
  simp only [List.take_succ_cons, List.take_zero, List.drop_succ_cons, List.drop_zero]
  repeat (first | still_step | still_call (still_of (within_any _ 2 (by decide) (by decide) _)))
  refine wpStill_nil ?_
  go_wp2
  refine bodyPost_ret (v := .agg #[.int .i64 (c0 % 2), .int .i64 c1, .int .i64 (c2 % 2), .int .i64 c3, .int .i64 c4, .int .i64 (c5 % 2)]) (by simp [results, Try.results14, go_sem]) rfl ⟨rfl, ?_⟩
  exact (((Below.refl _ _).alloc (Nat.le_refl _) _).alloc (by simp) _).drew
set_option maxHeartbeats 800000 in
theorem counter_any (c0 c1 c2 c3 c4 c5 : Int) (w : World) :
    Calls Try.prog 13 #[.agg #[.int .i64 c0, .int .i64 c1, .int .i64 c2, .int .i64 c3, .int .i64 c4, .int .i64 c5]] w fun e w' =>
      e = .returned (.agg #[.int .i64 (c0 % 2), .int .i64 (c1 % 2), .int .i64 (wrap32 c2), .int .i64 (c3 % 2), .int .i64 (wrap32 c4), .int .i64 (c5 % 2)]) ∧ Below w.heap.size w w' := by
  go_enter Try.func13, Try.ntmps13
  go_wp2
  refine region_tail 21 (by kernel_rfl) (by kernel_rfl) ?_
  simp only [List.take_succ_cons, List.take_zero, List.drop_succ_cons, List.drop_zero]
  repeat (first | still_step | still_call (still_of (within_any _ 2 (by decide) (by decide) _)))
  refine wpStill_nil ?_
  go_wp2
  refine bodyPost_ret (v := .agg #[.int .i64 (c0 % 2), .int .i64 (c1 % 2), .int .i64 (wrap32 c2), .int .i64 (c3 % 2), .int .i64 (wrap32 c4), .int .i64 (c5 % 2)]) (by simp [results, Try.results13, go_sem, w64_32]) rfl ⟨rfl, ?_⟩
  exact (((Below.refl _ _).alloc (Nat.le_refl _) _).alloc (by simp) _).drew
end Go.Proofs.Ytodjiplbecpplaa
