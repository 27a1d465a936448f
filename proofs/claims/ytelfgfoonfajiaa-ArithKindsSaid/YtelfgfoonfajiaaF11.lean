/- Chapter 11: the walks of ArithOnes, ArithKinds. -/
import Derived.Test.YtelfgfoonfajiaaE11
namespace Go.Proofs.Ytelfgfoonfajiaa
open Go.RowKit
set_option linter.unusedVariables false

set_option maxHeartbeats 2000000 in
theorem arithOnes_walk (k t x : Int) (w : World) (w0 : I64 k) (w1 : I64 t) (w2 : I64 x) :
    Calls Try.prog 12 #[.int .i64 k, .int .i64 t, .int .i64 x] w fun e w' => e = .returned (.bool true) ∧ Below w.heap.size w w' := by
  have HN := Lib.hid (fun u => within_any k 6 (by decide) (by decide) u)
  have HM := Lib.hid (fun u => within_any t 6 (by decide) (by decide) u)
  have hk1 : 0 ≤ k % 6 := by omega
  have hk2 : k % 6 < 6 := by omega
  have ht1 : 0 ≤ t % 6 := by omega
  have ht2 : t % 6 < 6 := by omega
  generalize k % 6 = j at *
  generalize t % 6 = l at *
  have F2 := wrapK_idem (1 + l) (wrapK (1 + j) x)
  have F3 : 1 + j ≤ 3 → notK (1 + j) (notK (1 + j) (wrapK (1 + j) x)) = wrapK (1 + j) x := notK_twice (1 + j) x (by omega)
  have H3 := Lib.hid F3
  clear w0 w1 w2 F3
  have HV := Lib.hid (fun u => rwrap_any (1 + j) x u)
  have HX := Lib.hid (fun u => rwrap_any k x u)
  generalize wrapK (1 + j) x = X at *
  by_cases h3 : 3 < 1 + j
  · go_enter Try.func12, Try.ntmps12
    go_wp2_with (first
      | (go_at_call 13; (with_reducible refine (known_any _).mono ?_); rintro e u1 ⟨rfl, hb⟩; have HB := Lib.hid hb; clear hb)
      | (go_at_call 16; (with_reducible refine (HN.out _).mono ?_); rintro e _ ⟨rfl, rfl⟩)
      | (go_at_call 16; (with_reducible refine (HM.out _).mono ?_); rintro e _ ⟨rfl, rfl⟩)
      | (go_at_call 18; (with_reducible refine (HV.out _).mono ?_); rintro e _ ⟨rfl, rfl⟩)
      | (go_at_call 18; (with_reducible refine (rwrap_any _ _ _).mono ?_); rintro e _ ⟨rfl, rfl⟩)
      | (go_at_call 22; (with_reducible refine (pnot_any _ _ _).mono ?_); rintro e _ ⟨rfl, rfl⟩)
      | (go_at_call 23; (with_reducible refine (rnot_any _ _ _).mono ?_); rintro e _ ⟨rfl, rfl⟩)
      | (go_at_call 21; (with_reducible refine (pconv_any _ _ _ _).mono ?_); rintro e _ ⟨rfl, rfl⟩)
      | (go_at_call 24; (with_reducible refine (rconv_any _ _ _ _).mono ?_); rintro e _ ⟨rfl, rfl⟩))
    go_ret
    exact ⟨rfl, HB.out⟩
  · have F3 := H3.out (by omega)
    have h3' : decide (3 < 1 + j) = false := by simpa using h3
    go_enter Try.func12, Try.ntmps12
    go_wp2_with (first
      | (go_at_call 13; (with_reducible refine (known_any _).mono ?_); rintro e u1 ⟨rfl, hb⟩; have HB := Lib.hid hb; clear hb)
      | (go_at_call 16; (with_reducible refine (HN.out _).mono ?_); rintro e _ ⟨rfl, rfl⟩)
      | (go_at_call 16; (with_reducible refine (HM.out _).mono ?_); rintro e _ ⟨rfl, rfl⟩)
      | (go_at_call 18; (with_reducible refine (HV.out _).mono ?_); rintro e _ ⟨rfl, rfl⟩)
      | (go_at_call 18; (with_reducible refine (rwrap_any _ _ _).mono ?_); rintro e _ ⟨rfl, rfl⟩)
      | (go_at_call 22; (with_reducible refine (pnot_any _ _ _).mono ?_); rintro e _ ⟨rfl, rfl⟩)
      | (go_at_call 23; (with_reducible refine (rnot_any _ _ _).mono ?_); rintro e _ ⟨rfl, rfl⟩)
      | (go_at_call 21; (with_reducible refine (pconv_any _ _ _ _).mono ?_); rintro e _ ⟨rfl, rfl⟩)
      | (go_at_call 24; (with_reducible refine (rconv_any _ _ _ _).mono ?_); rintro e _ ⟨rfl, rfl⟩))
    go_ret
    exact ⟨rfl, HB.out⟩

set_option maxHeartbeats 2000000 in
theorem arithKinds_walk (s a b : Int) (w : World) (w0 : I64 s) (w1 : I64 a) (w2 : I64 b) :
    Calls Try.prog 3 #[.int .i64 s, .int .i64 a, .int .i64 b] w fun e w' => e = .returned (.bool true) ∧ Below w.heap.size w w' := by
  clear w0 w1 w2
  go_enter Try.func3, Try.ntmps3
  go_wp2_with fail
  refine (known_any _).mono ?_
  rintro e u1 ⟨rfl, hb1⟩
  have HB1 := Lib.hid hb1
  clear hb1
  go_wp2_with fail
  refine (pkind_any _ _ _ _).mono ?_
  rintro e u2 ⟨rfl, hb2⟩
  have HB2 := Lib.hid (HB1.out.trans (hb2.mono HB1.out.size))
  clear hb2 HB1
  go_wp2_with fail
  refine (rkind_any _ _ _ _).mono ?_
  rintro e _ ⟨rfl, rfl⟩
  go_wp2_with fail
  go_loopw [11] (fun i wr => ∃ k : Nat, k ≤ 33 ∧ i = .int .i64 ((k : Int) - 1) ∧ Below w.heap.size w wr) (fun i _ => 40 - (intOf i + 2).toNat)
  case atStart => exact ⟨0, by omega, rfl, HB2.out⟩
  case round =>
    obtain ⟨k, hk, rfl, hb⟩ := hrel
    have HB := Lib.hid hb
    clear hb HB2
    by_cases hlt : k < 33
    · have hlt' : (k : Int) - 1 < 32 := by omega
      go_wp2_with (first
        | (go_at_call 16; (with_reducible refine (within_any _ 8 (by decide) (by decide) _).mono ?_); rintro e _ ⟨rfl, rfl⟩)
        | (go_at_call 14; (with_reducible refine (pkind_any _ _ _ _).mono ?_); rintro e u3 ⟨rfl, hb3⟩; have HB3 := Lib.hid (HB.out.trans (hb3.mono HB.out.size)); clear hb3)
        | (go_at_call 15; (with_reducible refine (rkind_any _ _ _ _).mono ?_); rintro e _ ⟨rfl, rfl⟩))
      go_roundw
      case rel => exact ⟨k + 1, by omega, by go_num, HB3.out⟩
      case measure => simp [intOf]; omega
    · have hge : ¬ ((k : Int) - 1 < 32) := by omega
      go_wp2
      go_ret
      exact ⟨rfl, HB.out⟩
end Go.Proofs.Ytelfgfoonfajiaa
