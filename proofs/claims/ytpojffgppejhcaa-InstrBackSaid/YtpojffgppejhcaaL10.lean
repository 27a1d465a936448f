/- Chapter 10: InstrPlaces. -/
import Derived.Test.YtpojffgppejhcaaK10
namespace Go.Proofs.Ytpojffgppejhcaa
open Go.RowKit
set_option linter.unusedVariables false
set_option linter.unusedSimpArgs false

theorem came_nil (w : World) (V : Nat → Value) : Came w none 0 0 V := ⟨Nat.le_refl _, by omega, fun h => absurd h (by omega)⟩

theorem rd_out {z : Nat → Int} {len : Nat} {p : Int} (h : p < 0 ∨ (len : Int) ≤ p) : rd z len p = ((0, 0, 0, 0, 0), 12) := by
  simp only [rd, if_pos h]
theorem rd_in {z : Nat → Int} {len : Nat} {p : Int} (h : ¬ (p < 0 ∨ (len : Int) ≤ p)) : ((rd z len p).2 == 12) = false := by
  simp only [rd, if_neg h]
  split
  · rfl
  · split <;> rfl

set_option maxHeartbeats 8000000 in
theorem places_core (A0 : Option Addr) (len0 cap0 : Nat) (z0 : Nat → Int) (a1 : Int) (w : World) (c0 : Came w A0 len0 cap0 fun j => .int .u8 (z0 j)) (w0 : ∀ j, j < len0 → 0 ≤ z0 j ∧ z0 j ≤ 255) (w1 : I64 a1)
    (hl : len0 ≤ 100) (r0 r1 r2 r3 r4 re : Int) (hr : rd z0 len0 a1 = ((r0, r1, r2, r3, r4), re)) (b1 b2 : Bool) (h1 : decide (0 ≤ a1) = b1) (h2 : decide (a1 < len0) = b2)
    (hx : ((b1 && b2) || ((re == 12) && (r1 == 0))) = true) (hy : (!(b1 && b2) || !(re == 12)) = true) :
    Calls Try.prog 5 #[.slice A0 len0 cap0, .int .i64 a1] w fun e w' => e = .returned (.bool true) ∧ Below w.heap.size w w' := by
  have C1 := Lib.hid (fun (u : World) (c : Came u A0 len0 cap0 fun j => .int .u8 (z0 j)) => read_any A0 len0 cap0 z0 a1 u c (by omega) (fun i hi => by have := w0 i hi; omega))
  have C2 := Lib.hid (fun (u : World) (c : Came u A0 len0 cap0 fun j => .int .u8 (z0 j)) => read_any A0 len0 cap0 z0 len0 u c (by omega) (fun i hi => by have := w0 i hi; omega))
  have C3 := Lib.hid (fun (u : World) => read_any none 0 0 (fun _ => 0) a1 u (came_nil u _) (by omega) (fun i hi => by omega))
  rw [hr] at C1
  rw [rd_out (z := z0) (len := len0) (p := len0) (by omega)] at C2
  rw [rd_out (z := fun _ => 0) (len := 0) (p := a1) (by omega)] at C3
  simp only [rdV, opT] at C1 C2 C3
  have HC := Lib.hid c0
  have hl' : (len0 : Int) ≤ 100 := by omega
  clear hr c0 w0 w1
  go_enter Try.func5, Try.ntmps5
  go_wp2_with fail
  refine (known_any _).mono ?_
  rintro e u1 ⟨rfl, hb1⟩
  have HB1 := Lib.hid hb1
  clear hb1
  go_wp2_with fail
  refine (C1.out _ (HC.out.below (Nat.le_refl _) HB1.out)).mono ?_
  rintro e u2 ⟨rfl, hb2⟩
  have HB2 := Lib.hid (HB1.out.trans (hb2.mono HB1.out.size))
  clear hb2 HB1 C1
  go_wp2_with fail
  refine (C2.out _ ((HC.out.below (Nat.le_refl _) HB2.out).below (Nat.le_refl _) ((Below.refl _ u2).alloc (Nat.le_refl _) _))).mono ?_
  rintro e u3 ⟨rfl, hb3⟩
  have q1 : u3.cell? ⟨u2.heap.size, 1, none⟩ = some (.int .i64 r1) := by
    rw [hb3.cell (p := ⟨u2.heap.size, 1, none⟩) (by simp)]
    go_simp
  have hz3 : u2.heap.size < u3.heap.size := by have := hb3.size; simp at this; omega
  have hz2 := HB2.out.size
  have HB3 := Lib.hid ((HB2.out.alloc hz2 _).trans (hb3.mono (by simp; omega)))
  clear hb3 HB2 C2
  go_wp2_with fail
  refine (C3.out _).mono ?_
  rintro e u4 ⟨rfl, hb4⟩
  have q2 : u4.cell? ⟨u2.heap.size, 1, none⟩ = some (.int .i64 r1) := by
    rw [hb4.cell (p := ⟨u2.heap.size, 1, none⟩) (by simp; omega)]
    go_simp
  have hz4 : u2.heap.size < u4.heap.size := by have := hb4.size; simp at this; omega
  have HB4 := Lib.hid ((HB3.out.alloc (by omega) _).trans (hb4.mono (by simp; omega)))
  clear hb4 HB3 C3 q1 HC
  cases b1 <;> cases b2 <;> (try simp at hx) <;> (try simp at hy) <;> simp at h1 h2
  all_goals go_wp2
  all_goals first | (exfalso; omega) | (go_ret; exact ⟨by first | rfl | (simp_all; done) | (simp_all; omega), HB4.out.alloc (by omega) _⟩)

theorem instrPlaces_walk (A0 : Option Addr) (len0 cap0 : Nat) (z0 : Nat → Int) (a1 : Int) (w : World) (c0 : Came w A0 len0 cap0 fun j => .int .u8 (z0 j)) (w0 : ∀ j, j < len0 → 0 ≤ z0 j ∧ z0 j ≤ 255) (w1 : I64 a1) :
    Calls Try.prog 5 #[.slice A0 len0 cap0, .int .i64 a1] w fun e w' => e = .returned (.bool true) ∧ Below w.heap.size w w' := by
  by_cases hl : len0 ≤ 100
  · by_cases hin : a1 < 0 ∨ (len0 : Int) ≤ a1
    · refine places_core A0 len0 cap0 z0 a1 w c0 w0 w1 hl 0 0 0 0 0 12 (rd_out hin) _ _ rfl rfl ?_ ?_
      · simp
      · simp; omega
    · have h := rd_in (z := z0) hin
      rcases hq : rd z0 len0 a1 with ⟨⟨r0, r1, r2, r3, r4⟩, re⟩
      rw [hq] at h
      refine places_core A0 len0 cap0 z0 a1 w c0 w0 w1 hl _ _ _ _ _ _ hq _ _ rfl rfl ?_ ?_
      · have h1 : 0 ≤ a1 := by omega
        have h2 : a1 < len0 := by omega
        simp [h1, h2]
      · rw [show (re == 12) = false from h]; simp
  · have hl' : (100 : Int) < len0 := by omega
    have hmax : (len0 : Int) ≤ 9223372036854775807 := by have := c0.le; have := c0.max; omega
    clear c0 w0 w1 hl
    go_enter Try.func5, Try.ntmps5
    go_wp2_with fail
    refine (known_any _).mono ?_
    rintro e u1 ⟨rfl, hb1⟩
    have HB1 := Lib.hid hb1
    clear hb1
    go_wp2
    go_ret
    exact ⟨rfl, HB1.out⟩
end Go.Proofs.Ytpojffgppejhcaa
