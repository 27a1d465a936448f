/- Chapter 13: the walk of BlocksResets. -/
import Derived.Test.YtodjiplbecpplaaF13
import Derived.Test.YtodjiplbecpplaaFrame
namespace Go.Proofs.Ytodjiplbecpplaa
open Go.RowKit
set_option linter.unusedVariables false
attribute [local go_sem ↓] Go.wp_at_zero Go.wp_at_succ

theorem Six.below {w w1 : World} {B b : Nat} {c0 c1 c2 c3 c4 c5 : Int} (hb : Below B w w1) (h : Six w b c0 c1 c2 c3 c4 c5) (hlt : b < B) : Six w1 b c0 c1 c2 c3 c4 c5 := by
  have ec : ∀ o, w1.cell? ⟨b, o, none⟩ = w.cell? ⟨b, o, none⟩ := fun o => hb.cell (p := ⟨b, o, none⟩) hlt
  have ef : ∀ o, w1.frozen? ⟨b, o, none⟩ = w.frozen? ⟨b, o, none⟩ := fun o => hb.frozen (p := ⟨b, o, none⟩) hlt
  obtain ⟨k0, k1, k2, k3, k4, k5, f0, f1, f2, f3, f4, f5⟩ := h
  exact ⟨(ec _).trans k0, (ec _).trans k1, (ec _).trans k2, (ec _).trans k3, (ec _).trans k4, (ec _).trans k5, (ef _).trans f0, (ef _).trans f1, (ef _).trans f2, (ef _).trans f3, (ef _).trans f4, (ef _).trans f5⟩

theorem wrap32_lo (c : Int) : -2147483648 ≤ wrap32 c ∧ wrap32 c ≤ 2147483647 := by unfold wrap32; omega

set_option maxHeartbeats 800000 in
theorem blocksResets_walk (c0 c1 c2 c3 c4 c5 : Int) (w : World) (w0 : I64 c0) (w1 : I64 c1) (w2 : I64 c2) (w3 : I64 c3) (w4 : I64 c4) (w5 : I64 c5) :
    Calls Try.prog 4 #[.agg #[.int .i64 c0, .int .i64 c1, .int .i64 c2, .int .i64 c3, .int .i64 c4, .int .i64 c5]] w fun e w' => e = .returned (.bool true) ∧ Below w.heap.size w w' := by
  clear w0 w1 w2 w3 w4 w5
  have hl := wrap32_lo c4
  generalize hx4 : wrap32 c4 = x4 at hl
  generalize hx2 : wrap32 c2 = x2
  have CT := fun u => counter_any c0 c1 c2 c3 c4 c5 u
  rw [hx2, hx4] at CT
  clear hx2 hx4
  have CU := fun u => ctu_any (c0 % 2) 1 x2 (c3 % 2) x4 (c5 % 2) u (by omega)
  have e1 : ctuV (c0 % 2) 1 x4 (c5 % 2) = 0 := by simp [ctuV]
  rw [e1] at CU
  clear e1
  obtain ⟨q, hq, hq'⟩ : ∃ q, q = bit (decide (x2 ≤ 0)) ∧ (if x2 ≤ 0 then (1 : Int) else 0) = q := ⟨_, rfl, by simp [bit]⟩
  rw [← hq] at CU
  clear hq
  have E : ∀ w, (Op.equalIn 10000 25 (.agg #[.int .i64 (c0 % 2), .int .i64 1, .int .i64 x2, .int .i64 q, .int .i64 0, .int .i64 (c0 % 2)]) (.agg #[.int .i64 (c0 % 2), .int .i64 1, .int .i64 x2, .int .i64 q, .int .i64 0, .int .i64 (c0 % 2)])).run Try.prog w = .ok true w := fun w => by
    rw [eq6]; simp
  go_enter Try.func4, Try.ntmps4
  go_wp2_with fail
  refine (known_any _).mono ?_
  rintro e u1 ⟨rfl, hb1⟩
  obtain ⟨k0, k1, k2, k3, k4, k5, f0, f1, f2, f3, f4, f5⟩ : Six u1 w.heap.size c0 c1 c2 c3 c4 c5 := Six.below hb1 (by constructor <;> go_simp) (by simp)
  have HB1 := Lib.hid (((Below.refl w.heap.size w).alloc (Nat.le_refl _) _).trans (hb1.mono (by simp)))
  have hz1 : w.heap.size < u1.heap.size := by have := hb1.size; simp at this; omega
  clear hb1
  go_wp2_with fail
  refine (CT _).mono ?_
  rintro e u2 ⟨rfl, hb2⟩
  have HB2 := Lib.hid (HB1.out.trans (hb2.mono (by omega)))
  have hz2 : w.heap.size < u2.heap.size := by have := hb2.size; omega
  clear hb2 HB1 k0 k1 k2 k3 k4 k5 f0 f1 f2 f3 f4 f5 hz1
  go_wp2_with fail
  refine (CU _).mono ?_
  rintro e u3 ⟨rfl, hb3⟩
  obtain ⟨k0, k1, k2, k3, k4, k5, f0, f1, f2, f3, f4, f5⟩ : Six u3 u2.heap.size (c0 % 2) 1 x2 (c3 % 2) x4 (c5 % 2) := Six.below hb3 (by constructor <;> go_simp) (by simp)
  have hz3 : u2.heap.size < u3.heap.size := by have := hb3.size; simp at this; omega
  have HB3 := Lib.hid ((HB2.out.alloc (by omega) _).trans (hb3.mono (by simp; omega)))
  clear hb3 HB2
  by_cases hx : x2 ≤ 0
  · rw [if_pos hx] at hq'
    subst hq'
    go_wp2
    go_ret
    exact ⟨rfl, HB3.out.alloc (by omega) _⟩
  · rw [if_neg hx] at hq'
    subst hq'
    go_wp2
    go_ret
    exact ⟨rfl, HB3.out.alloc (by omega) _⟩
end Go.Proofs.Ytodjiplbecpplaa
