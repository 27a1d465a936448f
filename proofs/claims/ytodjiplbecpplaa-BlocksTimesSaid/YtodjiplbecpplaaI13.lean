/- Chapter 13: the walk of BlocksOff. -/
import Derived.Test.YtodjiplbecpplaaG13
import Derived.Deep.RegionHeld3
namespace Go.Proofs.Ytodjiplbecpplaa
open Go.RowKit
set_option linter.unusedVariables false
attribute [local go_sem ↓] Go.wp_at_zero Go.wp_at_succ

theorem eq6_refl (a b c d e f : Int) (w : World) : (Op.equalIn 10000 25 (.agg #[.int .i64 a, .int .i64 b, .int .i64 c, .int .i64 d, .int .i64 e, .int .i64 f]) (.agg #[.int .i64 a, .int .i64 b, .int .i64 c, .int .i64 d, .int .i64 e, .int .i64 f])).run Try.prog w = .ok true w := by
  rw [eq6]; simp

theorem ton_off (c1 c2 c3 c4 c5 now : Int) (w : World) :
    Calls Try.prog 15 #[.agg #[.int .i64 0, .int .i64 c1, .int .i64 c2, .int .i64 c3, .int .i64 c4, .int .i64 c5], .int .i64 now] w fun e w' =>
      e = .returned (.agg #[.int .i64 0, .int .i64 c1, .int .i64 0, .int .i64 0, .int .i64 c4, .int .i64 0]) ∧ Below w.heap.size w w' := ton_any 0 c1 c2 c3 c4 c5 now w

theorem bcell {w w1 : World} {B b : Nat} (hb : Below B w w1) (h : b < B) (o : Nat) : w1.cell? ⟨b, o, none⟩ = w.cell? ⟨b, o, none⟩ := hb.cell (p := ⟨b, o, none⟩) h

set_option maxHeartbeats 2000000 in
theorem blocksOff_walk (c0 c1 c2 c3 c4 c5 a1 : Int) (w : World) (w0 : I64 c0) (w1 : I64 c1) (w2 : I64 c2) (w3 : I64 c3) (w4 : I64 c4) (w5 : I64 c5) (w6 : I64 a1) :
    Calls Try.prog 8 #[.agg #[.int .i64 c0, .int .i64 c1, .int .i64 c2, .int .i64 c3, .int .i64 c4, .int .i64 c5], .int .i64 a1] w fun e w' => e = .returned (.bool true) ∧ Below w.heap.size w w' := by
  clear w0 w1 w2 w3 w4 w5 w6
  have E := eq6_refl 0 c1 0 0 c4 0
  go_enter Try.func8, Try.ntmps8
  go_wp2_with fail
  refine (known_any _).mono ?_
  rintro e u1 ⟨rfl, hb1⟩
  obtain ⟨k0, k1, k2, k3, k4, k5, f0, f1, f2, f3, f4, f5⟩ : Six u1 w.heap.size c0 c1 c2 c3 c4 c5 := Six.below hb1 (by constructor <;> go_simp) (by simp)
  have HB1 := Lib.hid (((Below.refl w.heap.size w).alloc (Nat.le_refl _) _).trans (hb1.mono (by simp)))
  have hz1 : w.heap.size < u1.heap.size := by have := hb1.size; simp at this; omega
  clear hb1
  go_wp2_with fail
  refine (within_any a1 1099511627777 (by decide) (by decide) _).mono ?_
  rintro e _ ⟨rfl, rfl⟩
  generalize a1 % 1099511627777 = now at *
  go_wp2_with fail
  refine (timer_any c0 c1 c2 c3 c4 c5 _).mono ?_
  rintro e u2 ⟨rfl, hb2⟩
  have HB2 := Lib.hid (HB1.out.trans (hb2.mono (by omega)))
  have hz2 : w.heap.size < u2.heap.size := by have := hb2.size; omega
  clear hb2 HB1 k0 k1 k2 k3 k4 k5 f0 f1 f2 f3 f4 f5 hz1
  generalize c2 % 2 = x2 at *
  generalize c5 % 2 = x5 at *
  go_wp2_with fail
  refine (ton_off c1 x2 c3 c4 x5 now _).mono ?_
  rintro e u3 ⟨rfl, hb3⟩
  obtain ⟨k0, k1, k2, k3, k4, k5, f0, f1, f2, f3, f4, f5⟩ : Six u3 u2.heap.size 0 c1 x2 c3 c4 x5 := Six.below hb3 (by constructor <;> go_simp) (by simp)
  have hz3 : u2.heap.size < u3.heap.size := by have := hb3.size; simp at this; omega
  have HB3 := Lib.hid ((HB2.out.alloc (by omega) _).trans (hb3.mono (by simp; omega)))
  clear hb3 HB2
  go_wp2
  go_region_held3 (fun w' => w'.cell? ⟨u3.heap.size, 0, none⟩ = some (.int .i64 0) ∧ w'.cell? ⟨u3.heap.size, 1, none⟩ = some (.int .i64 c1) ∧ w'.cell? ⟨u3.heap.size, 2, none⟩ = some (.int .i64 0) ∧ w'.cell? ⟨u3.heap.size, 3, none⟩ = some (.int .i64 0) ∧ w'.cell? ⟨u3.heap.size, 4, none⟩ = some (.int .i64 c4) ∧ w'.cell? ⟨u3.heap.size, 5, none⟩ = some (.int .i64 0) ∧
      w'.cell? ⟨u2.heap.size, 1, none⟩ = some (.int .i64 c1) ∧ w'.cell? ⟨u2.heap.size, 4, none⟩ = some (.int .i64 c4)) (go_keep)
    (first | (go_at_call 15; refine (ton_off c1 0 0 c4 0 now _).mono ?_; rintro e u4 ⟨rfl, hb4⟩; have q1 := bcell hb4 (b := u3.heap.size) (by simp); have q2 := bcell hb4 (b := u2.heap.size) (by simp; omega); have HB4 := Lib.hid ((HB3.out.alloc (by omega) _).drew.trans (hb4.mono (by simp; omega)))))
  go_wp2
  go_ret
  exact ⟨rfl, HB4.out⟩
end Go.Proofs.Ytodjiplbecpplaa
