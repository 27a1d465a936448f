/- Chapter 13: the walk of BlocksAgain. -/
import Derived.Test.YtodjiplbecpplaaI13
namespace Go.Proofs.Ytodjiplbecpplaa
open Go.RowKit
set_option linter.unusedVariables false
attribute [local go_sem ↓] Go.wp_at_zero Go.wp_at_succ

theorem tonD_again (c0 c4 c5 now : Int) (h : ¬ c0 = 0) : tonD (tonT c0 c4 c5 now) (tonR c0 c5) now = tonD c4 c5 now := by
  by_cases h5 : c5 = 0
  · subst h5
    have e : wrap64 0 = 0 := IntWalk.wrap64_in 0 ⟨by omega, by omega⟩
    simp [tonT, tonR, h, tonD, e]
  · simp [tonT, tonR, h, tonD, h5]

theorem ton_again (c0 c1 c4 c5 now : Int) :
    tonQ c0 c1 (tonT c0 c4 c5 now) (tonR c0 c5) now = tonQ c0 c1 c4 c5 now ∧ tonE c0 c1 (tonT c0 c4 c5 now) (tonR c0 c5) now = tonE c0 c1 c4 c5 now ∧
      tonT c0 (tonT c0 c4 c5 now) (tonR c0 c5) now = tonT c0 c4 c5 now ∧ tonR c0 (tonR c0 c5) = tonR c0 c5 := by
  by_cases h : c0 = 0
  · subst h
    simp [tonQ, tonE, tonT, tonR]
  · refine ⟨?_, ?_, ?_, ?_⟩
    · simp only [tonQ, h, if_false, tonD_again c0 c4 c5 now h]
    · simp only [tonE, h, if_false, tonD_again c0 c4 c5 now h]
    · by_cases h5 : c5 = 0 <;> simp [tonT, tonR, h, h5]
    · by_cases h5 : c5 = 0 <;> simp [tonR, h, h5]

theorem ctuV_again (c0 c1 c4 c5 : Int) : ctuV c0 c1 (ctuV c0 c1 c4 c5) c0 = ctuV c0 c1 c4 c5 := by
  by_cases h1 : c1 = 1
  · simp [ctuV, h1]
  · have e : ∀ v, ctuV c0 c1 v c0 = v := fun v => by
      unfold ctuV
      rw [if_neg h1, if_neg]
      omega
    rw [e]

theorem ctuV_lo (c0 c1 c4 c5 : Int) (h : -2147483648 ≤ c4 ∧ c4 ≤ 2147483647) : -2147483648 ≤ ctuV c0 c1 c4 c5 ∧ ctuV c0 c1 c4 c5 ≤ 2147483647 := by
  unfold ctuV
  split
  · omega
  · split <;> omega

set_option maxHeartbeats 2000000 in
theorem blocksAgain_walk (c0 c1 c2 c3 c4 c5 a1 : Int) (w : World) (w0 : I64 c0) (w1 : I64 c1) (w2 : I64 c2) (w3 : I64 c3) (w4 : I64 c4) (w5 : I64 c5) (w6 : I64 a1) :
    Calls Try.prog 9 #[.agg #[.int .i64 c0, .int .i64 c1, .int .i64 c2, .int .i64 c3, .int .i64 c4, .int .i64 c5], .int .i64 a1] w fun e w' => e = .returned (.bool true) ∧ Below w.heap.size w w' := by
  clear w0 w1 w2 w3 w4 w5 w6
  have TM := fun u => timer_any c0 c1 c2 c3 c4 c5 u
  have CM := fun u => counter_any c0 c1 c2 c3 c4 c5 u
  have hl4 := wrap32_lo c4
  generalize c0 % 2 = x0 at *
  generalize c1 % 2 = x1 at *
  generalize c2 % 2 = x2 at *
  generalize c3 % 2 = x3 at *
  generalize c5 % 2 = x5 at *
  generalize wrap32 c2 = y2 at *
  generalize wrap32 c4 = y4 at *
  obtain ⟨now, hnow⟩ : ∃ now, a1 % 1099511627777 = now := ⟨_, rfl⟩
  have NW := fun u => within_any a1 1099511627777 (by decide) (by decide) u
  rw [hnow] at NW
  clear hnow
  have T1 := fun u => ton_any x0 c1 x2 c3 c4 x5 now u
  have T2 := fun u => ton_any x0 c1 (tonQ x0 c1 c4 x5 now) (tonE x0 c1 c4 x5 now) (tonT x0 c4 x5 now) (tonR x0 x5) now u
  obtain ⟨e1, e2, e3, e4⟩ := ton_again x0 c1 c4 x5 now
  rw [e1, e2, e3, e4] at T2
  clear e1 e2 e3 e4
  generalize tonQ x0 c1 c4 x5 now = q at *
  generalize tonE x0 c1 c4 x5 now = et at *
  generalize tonT x0 c4 x5 now = t at *
  generalize tonR x0 x5 = r at *
  have hlv := ctuV_lo x0 x1 y4 x5 hl4
  have C1 := fun u => ctu_any x0 x1 y2 x3 y4 x5 u (by omega)
  have C2 := fun u => ctu_any x0 x1 y2 (bit (decide (y2 ≤ ctuV x0 x1 y4 x5))) (ctuV x0 x1 y4 x5) x0 u (by omega)
  rw [ctuV_again] at C2
  generalize ctuV x0 x1 y4 x5 = v at *
  generalize bit (decide (y2 ≤ v)) = p at *
  clear hlv hl4
  have E1 := eq6_refl x0 c1 q et t r
  have E2 := eq6_refl x0 x1 y2 p v x0
  have hT1 := Lib.hid T1
  have hT2 := Lib.hid T2
  have hC1 := Lib.hid C1
  have hC2 := Lib.hid C2
  have hTM := Lib.hid TM
  have hCM := Lib.hid CM
  have hNW := Lib.hid NW
  clear T1 T2 C1 C2 TM CM NW
  go_enter Try.func9, Try.ntmps9
  go_wp2_with fail
  refine (known_any _).mono ?_
  rintro e u1 ⟨rfl, hb1⟩
  obtain ⟨k0, k1, k2, k3, k4, k5, f0, f1, f2, f3, f4, f5⟩ : Six u1 w.heap.size c0 c1 c2 c3 c4 c5 := Six.below hb1 (by constructor <;> go_simp) (by simp)
  have S1 := Lib.hid (Six.mk k0 k1 k2 k3 k4 k5 f0 f1 f2 f3 f4 f5)
  have HB1 := Lib.hid (((Below.refl w.heap.size w).alloc (Nat.le_refl _) _).trans (hb1.mono (by simp)))
  have hz1 : w.heap.size < u1.heap.size := by have := hb1.size; simp at this; omega
  clear hb1
  go_wp2_with fail
  refine (hNW.out _).mono ?_
  rintro e _ ⟨rfl, rfl⟩
  go_wp2_with fail
  refine (hTM.out _).mono ?_
  rintro e u2 ⟨rfl, hb2⟩
  have HB2 := Lib.hid (HB1.out.trans (hb2.mono (by omega)))
  have S2 := Lib.hid (Six.below hb2 S1.out hz1)
  have hz2 : w.heap.size < u2.heap.size := by have := hb2.size; omega
  clear hb2 HB1 S1 k0 k1 k2 k3 k4 k5 f0 f1 f2 f3 f4 f5 hz1
  go_wp2_with fail
  refine (hT1.out _).mono ?_
  rintro e u3 ⟨rfl, hb3⟩
  obtain ⟨k0, k1, k2, k3, k4, k5, f0, f1, f2, f3, f4, f5⟩ : Six u3 w.heap.size c0 c1 c2 c3 c4 c5 := Six.below hb3 S2.out hz2
  have hz3 : w.heap.size < u3.heap.size := by have := hb3.size; omega
  have HB3 := Lib.hid (HB2.out.trans (hb3.mono (by omega)))
  clear hb3 HB2 S2 hz2
  go_wp2_with fail
  refine (hCM.out _).mono ?_
  rintro e u4 ⟨rfl, hb4⟩
  have hz4 : u3.heap.size < u4.heap.size := by have := hb4.size; simp at this; omega
  have S4 := Lib.hid (Six.below (b := u3.heap.size) (c0 := x0) (c1 := c1) (c2 := q) (c3 := et) (c4 := t) (c5 := r) hb4 (by constructor <;> go_simp) (by simp))
  have HB4 := Lib.hid ((HB3.out.alloc (by omega) _).trans (hb4.mono (by simp; omega)))
  clear hb4 HB3 k0 k1 k2 k3 k4 k5 f0 f1 f2 f3 f4 f5
  go_wp2_with fail
  refine (hC1.out _).mono ?_
  rintro e u5 ⟨rfl, hb5⟩
  obtain ⟨k0, k1, k2, k3, k4, k5, f0, f1, f2, f3, f4, f5⟩ : Six u5 u3.heap.size x0 c1 q et t r := Six.below hb5 S4.out hz4
  have hz5 : u3.heap.size < u5.heap.size := by have := hb5.size; omega
  have HB5 := Lib.hid (HB4.out.trans (hb5.mono (by omega)))
  clear hb5 HB4 S4
  go_wp2
  go_region_held3 (fun w' => w'.cell? ⟨u3.heap.size, 0, none⟩ = some (.int .i64 x0) ∧ w'.cell? ⟨u3.heap.size, 1, none⟩ = some (.int .i64 c1) ∧ w'.cell? ⟨u3.heap.size, 2, none⟩ = some (.int .i64 q) ∧ w'.cell? ⟨u3.heap.size, 3, none⟩ = some (.int .i64 et) ∧ w'.cell? ⟨u3.heap.size, 4, none⟩ = some (.int .i64 t) ∧ w'.cell? ⟨u3.heap.size, 5, none⟩ = some (.int .i64 r) ∧
      w'.cell? ⟨u5.heap.size, 0, none⟩ = some (.int .i64 x0) ∧ w'.cell? ⟨u5.heap.size, 1, none⟩ = some (.int .i64 x1) ∧ w'.cell? ⟨u5.heap.size, 2, none⟩ = some (.int .i64 y2) ∧ w'.cell? ⟨u5.heap.size, 3, none⟩ = some (.int .i64 p) ∧ w'.cell? ⟨u5.heap.size, 4, none⟩ = some (.int .i64 v) ∧ w'.cell? ⟨u5.heap.size, 5, none⟩ = some (.int .i64 x0)) (go_keep)
    (first
      | (go_at_call 15; refine (hT2.out _).mono ?_; rintro e u6 ⟨rfl, hb6⟩; have q1 := bcell hb6 (b := u3.heap.size) (by simp; omega); have q2 := bcell hb6 (b := u5.heap.size) (by simp); have hz6 : u5.heap.size < u6.heap.size := (by have := hb6.size; simp at this; omega); have HB6 := Lib.hid ((HB5.out.alloc (by omega) _).drew.trans (hb6.mono (by simp; omega))); clear hb6)
      | (go_at_call 12; refine (hC2.out _).mono ?_; rintro e u7 ⟨rfl, hb7⟩; have q3 := bcell hb7 (b := u3.heap.size) (by omega); have q4 := bcell hb7 (b := u5.heap.size) (by omega); have HB7 := Lib.hid (HB6.out.trans (hb7.mono (by omega))); clear hb7))
  go_wp2
  go_ret
  exact ⟨rfl, HB7.out⟩
end Go.Proofs.Ytodjiplbecpplaa
