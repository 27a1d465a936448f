/- Chapter 11: which kind an operator makes, as a plain function; the document's Kind. -/
import Derived.Test.YtngobbbinacomaaDoorVWrap
import Derived.BigGuardPart
namespace Go.Proofs.YtngobbbinacomaaDoor.c11
open Go.Proofs.YtngobbbinacomaaDoor
open Go.RowKit
set_option linter.unusedVariables false

/-- Is the second one a kind of values? -/
theorem value_any (a : Int) (w : World) : Calls Tryd.prog 57 #[.int .i64 a] w fun e w' => e = .returned (.bool (decide (1 ≤ a ∧ a ≤ 6))) ∧ w = w' := by
  by_cases h1 : 1 ≤ a
  · by_cases h2 : a ≤ 6
    · rw [decide_eq_true ⟨h1, h2⟩]
      go_enter Tryd.func57, Tryd.ntmps57
      go_wp2
      go_ret
      exact ⟨rfl, rfl⟩
    · rw [decide_eq_false (by omega)]
      have h2' : decide (a ≤ 6) = false := by simpa using h2
      go_enter Tryd.func57, Tryd.ntmps57
      go_wp2
      go_ret
      exact ⟨rfl, rfl⟩
  · rw [decide_eq_false (by omega)]
    have h1' : decide (1 ≤ a) = false := by simpa using h1
    go_enter Tryd.func57, Tryd.ntmps57
    go_wp2
    go_ret
    exact ⟨rfl, rfl⟩

/-- Does a sign fit two kinds; what it makes. -/
def fitsK (s a b : Int) : Bool :=
  if s = 7 ∨ s = 8 then decide (a = b ∧ (a = 4 ∨ a = 5 ∨ a = 6)) else if s = 9 ∨ s = 10 ∨ s = 11 then decide (a = b ∧ (a = 4 ∨ a = 5)) else if s = 12 ∨ s = 13 ∨ s = 14 then decide (a = b ∧ (a = 1 ∨ a = 2 ∨ a = 3))
  else if s = 16 then decide (a = b ∧ 1 ≤ a ∧ a ≤ 6) else if s = 17 then decide (a = b ∧ 2 ≤ a ∧ a ≤ 6) else decide ((a = 2 ∨ a = 3) ∧ b = 5)
def signK (s : Int) : Bool := decide (s = 7 ∨ s = 8 ∨ s = 9 ∨ s = 10 ∨ s = 11 ∨ s = 12 ∨ s = 13 ∨ s = 14 ∨ s = 16 ∨ s = 17 ∨ s = 28 ∨ s = 29)
def kindE (s a b : Int) : Int := if signK s then (if fitsK s a b then 0 else 19) else 3
def kindM (s a b : Int) : Int := if signK s then (if fitsK s a b then (if s = 16 ∨ s = 17 then 1 else a) else 0) else 0


theorem kret {a b c d : Int} (h : a = c) (h' : b = d) : Ending.returned (.tuple #[.int .i64 a, .int .i64 b]) = .returned (.tuple #[.int .i64 c, .int .i64 d]) := by rw [h, h']

set_option maxHeartbeats 2000000 in
theorem rkind_7 (a b : Int) (w : World) : Calls Tryd.prog 42 #[.int .i64 7, .int .i64 a, .int .i64 b] w fun e w' => e = .returned (.tuple #[.int .i64 (kindM 7 a b), .int .i64 (kindE 7 a b)]) ∧ w = w' := by
  go_enter Tryd.func42, Tryd.ntmps42
  go_wp2_with (go_at_call 57; (with_reducible refine (value_any _ _).mono ?_); rintro e w' ⟨rfl, rfl⟩)
  all_goals go_ret2
  all_goals refine ⟨kret ?_ ?_, rfl⟩
  all_goals simp_all [kindM, kindE, signK, fitsK]
  all_goals omega

set_option maxHeartbeats 2000000 in
theorem rkind_8 (a b : Int) (w : World) : Calls Tryd.prog 42 #[.int .i64 8, .int .i64 a, .int .i64 b] w fun e w' => e = .returned (.tuple #[.int .i64 (kindM 8 a b), .int .i64 (kindE 8 a b)]) ∧ w = w' := by
  go_enter Tryd.func42, Tryd.ntmps42
  go_wp2_with (go_at_call 57; (with_reducible refine (value_any _ _).mono ?_); rintro e w' ⟨rfl, rfl⟩)
  all_goals go_ret2
  all_goals refine ⟨kret ?_ ?_, rfl⟩
  all_goals simp_all [kindM, kindE, signK, fitsK]
  all_goals omega

set_option maxHeartbeats 2000000 in
theorem rkind_9 (a b : Int) (w : World) : Calls Tryd.prog 42 #[.int .i64 9, .int .i64 a, .int .i64 b] w fun e w' => e = .returned (.tuple #[.int .i64 (kindM 9 a b), .int .i64 (kindE 9 a b)]) ∧ w = w' := by
  go_enter Tryd.func42, Tryd.ntmps42
  go_wp2_with (go_at_call 57; (with_reducible refine (value_any _ _).mono ?_); rintro e w' ⟨rfl, rfl⟩)
  all_goals go_ret2
  all_goals refine ⟨kret ?_ ?_, rfl⟩
  all_goals simp_all [kindM, kindE, signK, fitsK]
  all_goals omega

set_option maxHeartbeats 2000000 in
theorem rkind_10 (a b : Int) (w : World) : Calls Tryd.prog 42 #[.int .i64 10, .int .i64 a, .int .i64 b] w fun e w' => e = .returned (.tuple #[.int .i64 (kindM 10 a b), .int .i64 (kindE 10 a b)]) ∧ w = w' := by
  go_enter Tryd.func42, Tryd.ntmps42
  go_wp2_with (go_at_call 57; (with_reducible refine (value_any _ _).mono ?_); rintro e w' ⟨rfl, rfl⟩)
  all_goals go_ret2
  all_goals refine ⟨kret ?_ ?_, rfl⟩
  all_goals simp_all [kindM, kindE, signK, fitsK]
  all_goals omega

set_option maxHeartbeats 2000000 in
theorem rkind_11 (a b : Int) (w : World) : Calls Tryd.prog 42 #[.int .i64 11, .int .i64 a, .int .i64 b] w fun e w' => e = .returned (.tuple #[.int .i64 (kindM 11 a b), .int .i64 (kindE 11 a b)]) ∧ w = w' := by
  go_enter Tryd.func42, Tryd.ntmps42
  go_wp2_with (go_at_call 57; (with_reducible refine (value_any _ _).mono ?_); rintro e w' ⟨rfl, rfl⟩)
  all_goals go_ret2
  all_goals refine ⟨kret ?_ ?_, rfl⟩
  all_goals simp_all [kindM, kindE, signK, fitsK]
  all_goals omega

set_option maxHeartbeats 2000000 in
theorem rkind_12 (a b : Int) (w : World) : Calls Tryd.prog 42 #[.int .i64 12, .int .i64 a, .int .i64 b] w fun e w' => e = .returned (.tuple #[.int .i64 (kindM 12 a b), .int .i64 (kindE 12 a b)]) ∧ w = w' := by
  go_enter Tryd.func42, Tryd.ntmps42
  go_wp2_with (go_at_call 57; (with_reducible refine (value_any _ _).mono ?_); rintro e w' ⟨rfl, rfl⟩)
  all_goals go_ret2
  all_goals refine ⟨kret ?_ ?_, rfl⟩
  all_goals simp_all [kindM, kindE, signK, fitsK]
  all_goals omega

set_option maxHeartbeats 2000000 in
theorem rkind_13 (a b : Int) (w : World) : Calls Tryd.prog 42 #[.int .i64 13, .int .i64 a, .int .i64 b] w fun e w' => e = .returned (.tuple #[.int .i64 (kindM 13 a b), .int .i64 (kindE 13 a b)]) ∧ w = w' := by
  go_enter Tryd.func42, Tryd.ntmps42
  go_wp2_with (go_at_call 57; (with_reducible refine (value_any _ _).mono ?_); rintro e w' ⟨rfl, rfl⟩)
  all_goals go_ret2
  all_goals refine ⟨kret ?_ ?_, rfl⟩
  all_goals simp_all [kindM, kindE, signK, fitsK]
  all_goals omega

set_option maxHeartbeats 2000000 in
theorem rkind_14 (a b : Int) (w : World) : Calls Tryd.prog 42 #[.int .i64 14, .int .i64 a, .int .i64 b] w fun e w' => e = .returned (.tuple #[.int .i64 (kindM 14 a b), .int .i64 (kindE 14 a b)]) ∧ w = w' := by
  go_enter Tryd.func42, Tryd.ntmps42
  go_wp2_with (go_at_call 57; (with_reducible refine (value_any _ _).mono ?_); rintro e w' ⟨rfl, rfl⟩)
  all_goals go_ret2
  all_goals refine ⟨kret ?_ ?_, rfl⟩
  all_goals simp_all [kindM, kindE, signK, fitsK]
  all_goals omega

set_option maxHeartbeats 2000000 in
theorem rkind_16 (a b : Int) (w : World) : Calls Tryd.prog 42 #[.int .i64 16, .int .i64 a, .int .i64 b] w fun e w' => e = .returned (.tuple #[.int .i64 (kindM 16 a b), .int .i64 (kindE 16 a b)]) ∧ w = w' := by
  go_enter Tryd.func42, Tryd.ntmps42
  go_wp2_with (go_at_call 57; (with_reducible refine (value_any _ _).mono ?_); rintro e w' ⟨rfl, rfl⟩)
  all_goals go_ret2
  all_goals refine ⟨kret ?_ ?_, rfl⟩
  all_goals simp_all [kindM, kindE, signK, fitsK]
  all_goals omega

set_option maxHeartbeats 2000000 in
theorem rkind_17 (a b : Int) (w : World) : Calls Tryd.prog 42 #[.int .i64 17, .int .i64 a, .int .i64 b] w fun e w' => e = .returned (.tuple #[.int .i64 (kindM 17 a b), .int .i64 (kindE 17 a b)]) ∧ w = w' := by
  go_enter Tryd.func42, Tryd.ntmps42
  go_wp2_with (go_at_call 57; (with_reducible refine (value_any _ _).mono ?_); rintro e w' ⟨rfl, rfl⟩)
  all_goals go_ret2
  all_goals refine ⟨kret ?_ ?_, rfl⟩
  all_goals simp_all [kindM, kindE, signK, fitsK]
  all_goals omega

set_option maxHeartbeats 2000000 in
theorem rkind_28 (a b : Int) (w : World) : Calls Tryd.prog 42 #[.int .i64 28, .int .i64 a, .int .i64 b] w fun e w' => e = .returned (.tuple #[.int .i64 (kindM 28 a b), .int .i64 (kindE 28 a b)]) ∧ w = w' := by
  go_enter Tryd.func42, Tryd.ntmps42
  go_wp2_with (go_at_call 57; (with_reducible refine (value_any _ _).mono ?_); rintro e w' ⟨rfl, rfl⟩)
  all_goals go_ret2
  all_goals refine ⟨kret ?_ ?_, rfl⟩
  all_goals simp_all [kindM, kindE, signK, fitsK]
  all_goals omega

set_option maxHeartbeats 2000000 in
theorem rkind_29 (a b : Int) (w : World) : Calls Tryd.prog 42 #[.int .i64 29, .int .i64 a, .int .i64 b] w fun e w' => e = .returned (.tuple #[.int .i64 (kindM 29 a b), .int .i64 (kindE 29 a b)]) ∧ w = w' := by
  go_enter Tryd.func42, Tryd.ntmps42
  go_wp2_with (go_at_call 57; (with_reducible refine (value_any _ _).mono ?_); rintro e w' ⟨rfl, rfl⟩)
  all_goals go_ret2
  all_goals refine ⟨kret ?_ ?_, rfl⟩
  all_goals simp_all [kindM, kindE, signK, fitsK]
  all_goals omega

set_option maxHeartbeats 2000000 in
theorem rkind_x (s a b : Int) (w : World) (h7 : (s == 7) = false) (h8 : (s == 8) = false) (h9 : (s == 9) = false) (h10 : (s == 10) = false) (h11 : (s == 11) = false) (h12 : (s == 12) = false) (h13 : (s == 13) = false) (h14 : (s == 14) = false) (h16 : (s == 16) = false) (h17 : (s == 17) = false) (h28 : (s == 28) = false) (h29 : (s == 29) = false) : Calls Tryd.prog 42 #[.int .i64 s, .int .i64 a, .int .i64 b] w fun e w' => e = .returned (.tuple #[.int .i64 (kindM s a b), .int .i64 (kindE s a b)]) ∧ w = w' := by
  go_enter Tryd.func42, Tryd.ntmps42
  go_wp2_with (go_at_call 57; (with_reducible refine (value_any _ _).mono ?_); rintro e w' ⟨rfl, rfl⟩)
  all_goals go_ret2
  all_goals refine ⟨kret ?_ ?_, rfl⟩
  all_goals simp_all [kindM, kindE, signK]
  all_goals omega
end Go.Proofs.YtngobbbinacomaaDoor.c11
