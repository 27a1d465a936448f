/- Chapter 11: the program's Kind, every sign. Printed by genb11.py. -/
import Derived.Test.YtngobbbinacomaaDoorVA11
import Derived.Test.YtngobbbinacomaaDoorVIdx
namespace Go.Proofs.YtngobbbinacomaaDoor.c11
open Go.Proofs.YtngobbbinacomaaDoor
open Go.RowKit
set_option linter.unusedVariables false

/-- Are two kinds the same, and one of some? -/
def bothB (a b : Int) (l : List Int) : Bool := decide (a = b ∧ a ∈ l)

theorem both_any (a b : Int) (g cap : Nat) (z : List Int) (w : World) (hz : z.length ≤ 1000) (hc : ∀ i (h : i < z.length), w.cell? ⟨g, i, none⟩ = some (.int .i64 z[i])) :
    Calls Tryd.prog 118 #[.int .i64 a, .int .i64 b, .slice (some ⟨g, 0, none⟩) z.length cap] w fun e w' => e = .returned (.bool (bothB a b z)) ∧ w = w' := by
  by_cases hab : a = b
  · subst hab
    have e : bothB a a z = decide (a ∈ z) := by simp [bothB]
    rw [e]
    have HI := Lib.hid (contains_any g cap z a w hz hc)
    clear hc e
    go_enter Tryd.func118, Tryd.ntmps118
    go_wp2_with fail
    refine HI.out.mono ?_
    rintro e _ ⟨rfl, rfl⟩
    go_wp2
    go_ret
    exact ⟨rfl, rfl⟩
  · have e : bothB a b z = false := by simp [bothB, hab]
    rw [e]
    have h : (a == b) = false := by simpa using hab
    clear hc e
    go_enter Tryd.func118, Tryd.ntmps118
    go_wp2
    go_ret
    exact ⟨rfl, rfl⟩

theorem both_t (a b : Int) (g : Nat) (w : World) (h0 : w.cell? ⟨g, 0, none⟩ = some (.int .i64 6)) :
    Calls Tryd.prog 118 #[.int .i64 a, .int .i64 b, .slice (some ⟨g, 0, none⟩) 1 1] w fun e w' => e = .returned (.bool (bothB a b [6])) ∧ w = w' :=
  both_any a b g 1 [6] w (by decide) fun i h => by
    have h' : i < 1 := h
    rcases (show i = 0 by omega) with rfl
    · exact h0

theorem both_n (a b : Int) (g : Nat) (w : World) (h0 : w.cell? ⟨g, 0, none⟩ = some (.int .i64 4)) (h1 : w.cell? ⟨g, 1, none⟩ = some (.int .i64 5)) :
    Calls Tryd.prog 118 #[.int .i64 a, .int .i64 b, .slice (some ⟨g, 0, none⟩) 2 2] w fun e w' => e = .returned (.bool (bothB a b [4, 5])) ∧ w = w' :=
  both_any a b g 2 [4, 5] w (by decide) fun i h => by
    have h' : i < 2 := h
    rcases (show i = 0 ∨ i = 1 by omega) with rfl | rfl
    · exact h0
    · exact h1

theorem both_b (a b : Int) (g : Nat) (w : World) (h0 : w.cell? ⟨g, 0, none⟩ = some (.int .i64 1)) (h1 : w.cell? ⟨g, 1, none⟩ = some (.int .i64 2)) (h2 : w.cell? ⟨g, 2, none⟩ = some (.int .i64 3)) :
    Calls Tryd.prog 118 #[.int .i64 a, .int .i64 b, .slice (some ⟨g, 0, none⟩) 3 3] w fun e w' => e = .returned (.bool (bothB a b [1, 2, 3])) ∧ w = w' :=
  both_any a b g 3 [1, 2, 3] w (by decide) fun i h => by
    have h' : i < 3 := h
    rcases (show i = 0 ∨ i = 1 ∨ i = 2 by omega) with rfl | rfl | rfl
    · exact h0
    · exact h1
    · exact h2

theorem both_e (a b : Int) (g : Nat) (w : World) (h0 : w.cell? ⟨g, 0, none⟩ = some (.int .i64 1)) (h1 : w.cell? ⟨g, 1, none⟩ = some (.int .i64 2)) (h2 : w.cell? ⟨g, 2, none⟩ = some (.int .i64 3)) (h3 : w.cell? ⟨g, 3, none⟩ = some (.int .i64 4)) (h4 : w.cell? ⟨g, 4, none⟩ = some (.int .i64 5)) (h5 : w.cell? ⟨g, 5, none⟩ = some (.int .i64 6)) :
    Calls Tryd.prog 118 #[.int .i64 a, .int .i64 b, .slice (some ⟨g, 0, none⟩) 6 6] w fun e w' => e = .returned (.bool (bothB a b [1, 2, 3, 4, 5, 6])) ∧ w = w' :=
  both_any a b g 6 [1, 2, 3, 4, 5, 6] w (by decide) fun i h => by
    have h' : i < 6 := h
    rcases (show i = 0 ∨ i = 1 ∨ i = 2 ∨ i = 3 ∨ i = 4 ∨ i = 5 by omega) with rfl | rfl | rfl | rfl | rfl | rfl
    · exact h0
    · exact h1
    · exact h2
    · exact h3
    · exact h4
    · exact h5

theorem both_l (a b : Int) (g : Nat) (w : World) (h0 : w.cell? ⟨g, 0, none⟩ = some (.int .i64 2)) (h1 : w.cell? ⟨g, 1, none⟩ = some (.int .i64 3)) (h2 : w.cell? ⟨g, 2, none⟩ = some (.int .i64 4)) (h3 : w.cell? ⟨g, 3, none⟩ = some (.int .i64 5)) (h4 : w.cell? ⟨g, 4, none⟩ = some (.int .i64 6)) :
    Calls Tryd.prog 118 #[.int .i64 a, .int .i64 b, .slice (some ⟨g, 0, none⟩) 5 5] w fun e w' => e = .returned (.bool (bothB a b [2, 3, 4, 5, 6])) ∧ w = w' :=
  both_any a b g 5 [2, 3, 4, 5, 6] w (by decide) fun i h => by
    have h' : i < 5 := h
    rcases (show i = 0 ∨ i = 1 ∨ i = 2 ∨ i = 3 ∨ i = 4 by omega) with rfl | rfl | rfl | rfl | rfl
    · exact h0
    · exact h1
    · exact h2
    · exact h3
    · exact h4

set_option maxHeartbeats 2000000 in
theorem pkind_7 (a b : Int) (w : World) : Calls Tryd.prog 109 #[.int .i64 7, .int .i64 a, .int .i64 b] w fun e w' => e = .returned (.tuple #[.int .i64 (kindM 7 a b), .int .i64 (kindE 7 a b)]) ∧ Below w.heap.size w w' := by
  go_enter Tryd.func109, Tryd.ntmps109
  go_wp2_with (first | (go_at_call 118; (with_reducible refine (both_t _ _ _ _ ?_).mono ?_); go_simp; rintro e w' ⟨rfl, rfl⟩) | (go_at_call 118; (with_reducible refine (both_n _ _ _ _ ?_ ?_).mono ?_); go_simp; go_simp; rintro e w' ⟨rfl, rfl⟩))
  all_goals go_ret2
  all_goals refine ⟨kret ?_ ?_, by repeat (first | exact Below.refl _ _ | refine Below.alloc ?_ (by simp; done) _ | refine Below.alloc ?_ (by simp; omega) _)⟩
  all_goals simp_all [kindM, kindE, signK, fitsK, bothB]
  all_goals omega

set_option maxHeartbeats 2000000 in
theorem pkind_8 (a b : Int) (w : World) : Calls Tryd.prog 109 #[.int .i64 8, .int .i64 a, .int .i64 b] w fun e w' => e = .returned (.tuple #[.int .i64 (kindM 8 a b), .int .i64 (kindE 8 a b)]) ∧ Below w.heap.size w w' := by
  go_enter Tryd.func109, Tryd.ntmps109
  go_wp2_with (first | (go_at_call 118; (with_reducible refine (both_t _ _ _ _ ?_).mono ?_); go_simp; rintro e w' ⟨rfl, rfl⟩) | (go_at_call 118; (with_reducible refine (both_n _ _ _ _ ?_ ?_).mono ?_); go_simp; go_simp; rintro e w' ⟨rfl, rfl⟩))
  all_goals go_ret2
  all_goals refine ⟨kret ?_ ?_, by repeat (first | exact Below.refl _ _ | refine Below.alloc ?_ (by simp; done) _ | refine Below.alloc ?_ (by simp; omega) _)⟩
  all_goals simp_all [kindM, kindE, signK, fitsK, bothB]
  all_goals omega

set_option maxHeartbeats 2000000 in
theorem pkind_9 (a b : Int) (w : World) : Calls Tryd.prog 109 #[.int .i64 9, .int .i64 a, .int .i64 b] w fun e w' => e = .returned (.tuple #[.int .i64 (kindM 9 a b), .int .i64 (kindE 9 a b)]) ∧ Below w.heap.size w w' := by
  go_enter Tryd.func109, Tryd.ntmps109
  go_wp2_with (first | (go_at_call 118; (with_reducible refine (both_n _ _ _ _ ?_ ?_).mono ?_); go_simp; go_simp; rintro e w' ⟨rfl, rfl⟩))
  all_goals go_ret2
  all_goals refine ⟨kret ?_ ?_, by repeat (first | exact Below.refl _ _ | refine Below.alloc ?_ (by simp; done) _ | refine Below.alloc ?_ (by simp; omega) _)⟩
  all_goals simp_all [kindM, kindE, signK, fitsK, bothB]
  all_goals omega

set_option maxHeartbeats 2000000 in
theorem pkind_10 (a b : Int) (w : World) : Calls Tryd.prog 109 #[.int .i64 10, .int .i64 a, .int .i64 b] w fun e w' => e = .returned (.tuple #[.int .i64 (kindM 10 a b), .int .i64 (kindE 10 a b)]) ∧ Below w.heap.size w w' := by
  go_enter Tryd.func109, Tryd.ntmps109
  go_wp2_with (first | (go_at_call 118; (with_reducible refine (both_n _ _ _ _ ?_ ?_).mono ?_); go_simp; go_simp; rintro e w' ⟨rfl, rfl⟩))
  all_goals go_ret2
  all_goals refine ⟨kret ?_ ?_, by repeat (first | exact Below.refl _ _ | refine Below.alloc ?_ (by simp; done) _ | refine Below.alloc ?_ (by simp; omega) _)⟩
  all_goals simp_all [kindM, kindE, signK, fitsK, bothB]
  all_goals omega

set_option maxHeartbeats 2000000 in
theorem pkind_11 (a b : Int) (w : World) : Calls Tryd.prog 109 #[.int .i64 11, .int .i64 a, .int .i64 b] w fun e w' => e = .returned (.tuple #[.int .i64 (kindM 11 a b), .int .i64 (kindE 11 a b)]) ∧ Below w.heap.size w w' := by
  go_enter Tryd.func109, Tryd.ntmps109
  go_wp2_with (first | (go_at_call 118; (with_reducible refine (both_n _ _ _ _ ?_ ?_).mono ?_); go_simp; go_simp; rintro e w' ⟨rfl, rfl⟩))
  all_goals go_ret2
  all_goals refine ⟨kret ?_ ?_, by repeat (first | exact Below.refl _ _ | refine Below.alloc ?_ (by simp; done) _ | refine Below.alloc ?_ (by simp; omega) _)⟩
  all_goals simp_all [kindM, kindE, signK, fitsK, bothB]
  all_goals omega

set_option maxHeartbeats 2000000 in
theorem pkind_12 (a b : Int) (w : World) : Calls Tryd.prog 109 #[.int .i64 12, .int .i64 a, .int .i64 b] w fun e w' => e = .returned (.tuple #[.int .i64 (kindM 12 a b), .int .i64 (kindE 12 a b)]) ∧ Below w.heap.size w w' := by
  go_enter Tryd.func109, Tryd.ntmps109
  go_wp2_with (first | (go_at_call 118; (with_reducible refine (both_b _ _ _ _ ?_ ?_ ?_).mono ?_); go_simp; go_simp; go_simp; rintro e w' ⟨rfl, rfl⟩))
  all_goals go_ret2
  all_goals refine ⟨kret ?_ ?_, by repeat (first | exact Below.refl _ _ | refine Below.alloc ?_ (by simp; done) _ | refine Below.alloc ?_ (by simp; omega) _)⟩
  all_goals simp_all [kindM, kindE, signK, fitsK, bothB]
  all_goals omega

set_option maxHeartbeats 2000000 in
theorem pkind_13 (a b : Int) (w : World) : Calls Tryd.prog 109 #[.int .i64 13, .int .i64 a, .int .i64 b] w fun e w' => e = .returned (.tuple #[.int .i64 (kindM 13 a b), .int .i64 (kindE 13 a b)]) ∧ Below w.heap.size w w' := by
  go_enter Tryd.func109, Tryd.ntmps109
  go_wp2_with (first | (go_at_call 118; (with_reducible refine (both_b _ _ _ _ ?_ ?_ ?_).mono ?_); go_simp; go_simp; go_simp; rintro e w' ⟨rfl, rfl⟩))
  all_goals go_ret2
  all_goals refine ⟨kret ?_ ?_, by repeat (first | exact Below.refl _ _ | refine Below.alloc ?_ (by simp; done) _ | refine Below.alloc ?_ (by simp; omega) _)⟩
  all_goals simp_all [kindM, kindE, signK, fitsK, bothB]
  all_goals omega

set_option maxHeartbeats 2000000 in
theorem pkind_14 (a b : Int) (w : World) : Calls Tryd.prog 109 #[.int .i64 14, .int .i64 a, .int .i64 b] w fun e w' => e = .returned (.tuple #[.int .i64 (kindM 14 a b), .int .i64 (kindE 14 a b)]) ∧ Below w.heap.size w w' := by
  go_enter Tryd.func109, Tryd.ntmps109
  go_wp2_with (first | (go_at_call 118; (with_reducible refine (both_b _ _ _ _ ?_ ?_ ?_).mono ?_); go_simp; go_simp; go_simp; rintro e w' ⟨rfl, rfl⟩))
  all_goals go_ret2
  all_goals refine ⟨kret ?_ ?_, by repeat (first | exact Below.refl _ _ | refine Below.alloc ?_ (by simp; done) _ | refine Below.alloc ?_ (by simp; omega) _)⟩
  all_goals simp_all [kindM, kindE, signK, fitsK, bothB]
  all_goals omega

set_option maxHeartbeats 2000000 in
theorem pkind_16 (a b : Int) (w : World) : Calls Tryd.prog 109 #[.int .i64 16, .int .i64 a, .int .i64 b] w fun e w' => e = .returned (.tuple #[.int .i64 (kindM 16 a b), .int .i64 (kindE 16 a b)]) ∧ Below w.heap.size w w' := by
  go_enter Tryd.func109, Tryd.ntmps109
  go_wp2_with (first | (go_at_call 118; (with_reducible refine (both_e _ _ _ _ ?_ ?_ ?_ ?_ ?_ ?_).mono ?_); go_simp; go_simp; go_simp; go_simp; go_simp; go_simp; rintro e w' ⟨rfl, rfl⟩))
  all_goals go_ret2
  all_goals refine ⟨kret ?_ ?_, by repeat (first | exact Below.refl _ _ | refine Below.alloc ?_ (by simp; done) _ | refine Below.alloc ?_ (by simp; omega) _)⟩
  all_goals simp_all [kindM, kindE, signK, fitsK, bothB]
  all_goals omega

set_option maxHeartbeats 2000000 in
theorem pkind_17 (a b : Int) (w : World) : Calls Tryd.prog 109 #[.int .i64 17, .int .i64 a, .int .i64 b] w fun e w' => e = .returned (.tuple #[.int .i64 (kindM 17 a b), .int .i64 (kindE 17 a b)]) ∧ Below w.heap.size w w' := by
  go_enter Tryd.func109, Tryd.ntmps109
  go_wp2_with (first | (go_at_call 118; (with_reducible refine (both_l _ _ _ _ ?_ ?_ ?_ ?_ ?_).mono ?_); go_simp; go_simp; go_simp; go_simp; go_simp; rintro e w' ⟨rfl, rfl⟩))
  all_goals go_ret2
  all_goals refine ⟨kret ?_ ?_, by repeat (first | exact Below.refl _ _ | refine Below.alloc ?_ (by simp; done) _ | refine Below.alloc ?_ (by simp; omega) _)⟩
  all_goals simp_all [kindM, kindE, signK, fitsK, bothB]
  all_goals omega

set_option maxHeartbeats 2000000 in
theorem pkind_28 (a b : Int) (w : World) : Calls Tryd.prog 109 #[.int .i64 28, .int .i64 a, .int .i64 b] w fun e w' => e = .returned (.tuple #[.int .i64 (kindM 28 a b), .int .i64 (kindE 28 a b)]) ∧ Below w.heap.size w w' := by
  go_enter Tryd.func109, Tryd.ntmps109
  go_wp2
  all_goals go_ret2
  all_goals refine ⟨kret ?_ ?_, by repeat (first | exact Below.refl _ _ | refine Below.alloc ?_ (by simp; done) _ | refine Below.alloc ?_ (by simp; omega) _)⟩
  all_goals simp_all [kindM, kindE, signK, fitsK]
  all_goals omega

set_option maxHeartbeats 2000000 in
theorem pkind_29 (a b : Int) (w : World) : Calls Tryd.prog 109 #[.int .i64 29, .int .i64 a, .int .i64 b] w fun e w' => e = .returned (.tuple #[.int .i64 (kindM 29 a b), .int .i64 (kindE 29 a b)]) ∧ Below w.heap.size w w' := by
  go_enter Tryd.func109, Tryd.ntmps109
  go_wp2
  all_goals go_ret2
  all_goals refine ⟨kret ?_ ?_, by repeat (first | exact Below.refl _ _ | refine Below.alloc ?_ (by simp; done) _ | refine Below.alloc ?_ (by simp; omega) _)⟩
  all_goals simp_all [kindM, kindE, signK, fitsK]
  all_goals omega

set_option maxHeartbeats 2000000 in
theorem pkind_x (s a b : Int) (w : World) (h7 : (s == 7) = false) (h8 : (s == 8) = false) (h9 : (s == 9) = false) (h10 : (s == 10) = false) (h11 : (s == 11) = false) (h12 : (s == 12) = false) (h13 : (s == 13) = false) (h14 : (s == 14) = false) (h16 : (s == 16) = false) (h17 : (s == 17) = false) (h28 : (s == 28) = false) (h29 : (s == 29) = false) : Calls Tryd.prog 109 #[.int .i64 s, .int .i64 a, .int .i64 b] w fun e w' => e = .returned (.tuple #[.int .i64 (kindM s a b), .int .i64 (kindE s a b)]) ∧ Below w.heap.size w w' := by
  go_enter Tryd.func109, Tryd.ntmps109
  go_wp2
  all_goals go_ret2
  all_goals refine ⟨kret ?_ ?_, by repeat (first | exact Below.refl _ _ | refine Below.alloc ?_ (by simp; done) _ | refine Below.alloc ?_ (by simp; omega) _)⟩
  all_goals simp_all [kindM, kindE, signK]
  all_goals omega

theorem pkind_any (s a b : Int) (w : World) : Calls Tryd.prog 109 #[.int .i64 s, .int .i64 a, .int .i64 b] w fun e w' => e = .returned (.tuple #[.int .i64 (kindM s a b), .int .i64 (kindE s a b)]) ∧ Below w.heap.size w w' := by
  by_cases h7 : s = 7
  · subst h7; exact pkind_7 a b w
  by_cases h8 : s = 8
  · subst h8; exact pkind_8 a b w
  by_cases h9 : s = 9
  · subst h9; exact pkind_9 a b w
  by_cases h10 : s = 10
  · subst h10; exact pkind_10 a b w
  by_cases h11 : s = 11
  · subst h11; exact pkind_11 a b w
  by_cases h12 : s = 12
  · subst h12; exact pkind_12 a b w
  by_cases h13 : s = 13
  · subst h13; exact pkind_13 a b w
  by_cases h14 : s = 14
  · subst h14; exact pkind_14 a b w
  by_cases h16 : s = 16
  · subst h16; exact pkind_16 a b w
  by_cases h17 : s = 17
  · subst h17; exact pkind_17 a b w
  by_cases h28 : s = 28
  · subst h28; exact pkind_28 a b w
  by_cases h29 : s = 29
  · subst h29; exact pkind_29 a b w
  exact pkind_x s a b w (by simpa using h7) (by simpa using h8) (by simpa using h9) (by simpa using h10) (by simpa using h11) (by simpa using h12) (by simpa using h13) (by simpa using h14) (by simpa using h16) (by simpa using h17) (by simpa using h28) (by simpa using h29)

theorem rkind_any (s a b : Int) (w : World) : Calls Tryd.prog 42 #[.int .i64 s, .int .i64 a, .int .i64 b] w fun e w' => e = .returned (.tuple #[.int .i64 (kindM s a b), .int .i64 (kindE s a b)]) ∧ w = w' := by
  by_cases h7 : s = 7
  · subst h7; exact rkind_7 a b w
  by_cases h8 : s = 8
  · subst h8; exact rkind_8 a b w
  by_cases h9 : s = 9
  · subst h9; exact rkind_9 a b w
  by_cases h10 : s = 10
  · subst h10; exact rkind_10 a b w
  by_cases h11 : s = 11
  · subst h11; exact rkind_11 a b w
  by_cases h12 : s = 12
  · subst h12; exact rkind_12 a b w
  by_cases h13 : s = 13
  · subst h13; exact rkind_13 a b w
  by_cases h14 : s = 14
  · subst h14; exact rkind_14 a b w
  by_cases h16 : s = 16
  · subst h16; exact rkind_16 a b w
  by_cases h17 : s = 17
  · subst h17; exact rkind_17 a b w
  by_cases h28 : s = 28
  · subst h28; exact rkind_28 a b w
  by_cases h29 : s = 29
  · subst h29; exact rkind_29 a b w
  exact rkind_x s a b w (by simpa using h7) (by simpa using h8) (by simpa using h9) (by simpa using h10) (by simpa using h11) (by simpa using h12) (by simpa using h13) (by simpa using h14) (by simpa using h16) (by simpa using h17) (by simpa using h28) (by simpa using h29)
end Go.Proofs.YtngobbbinacomaaDoor.c11
