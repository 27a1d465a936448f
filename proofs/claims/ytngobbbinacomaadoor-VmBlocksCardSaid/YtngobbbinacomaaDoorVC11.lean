/- Chapter 11: Two, Not, Conv, the program's and the document's, as plain functions. Printed by genc11.py. -/
import Derived.Test.YtngobbbinacomaaDoorVB11
namespace Go.Proofs.YtngobbbinacomaaDoor.c11
open Go.Proofs.YtngobbbinacomaaDoor
open Go.RowKit
set_option linter.unusedVariables false

/-- What an operator makes, not wrapped yet. -/
def rawK (s x y : Int) : Int :=
  if s = 7 then wrap64 (x + y) else if s = 8 then wrap64 (x - y) else if s = 9 then wrap64 (x * y) else if s = 10 then wrap64 (x.tdiv y) else if s = 11 then x.tmod y
  else if s = 12 then bits .and .i64 x y else if s = 13 then bits .or .i64 x y else if s = 14 then bits .xor .i64 x y else if s = 16 then (if x = y then 1 else 0) else if s = 17 then (if x < y then 1 else 0)
  else if s = 28 then (if 0 ≤ y ∧ y ≤ 63 then wrap64 (x * 2 ^ y.toNat) else 0) else (if 0 ≤ y ∧ y ≤ 63 then x / 2 ^ y.toNat else 0)

def twoM (s a b x y : Int) : Int := if kindE s a b ≠ 0 then 0 else if (s = 10 ∨ s = 11) ∧ y = 0 then 0 else wrapK (kindM s a b) (rawK s x y)
def twoE (s a b y : Int) : Int := if kindE s a b ≠ 0 then kindE s a b else if (s = 10 ∨ s = 11) ∧ y = 0 then 21 else 0

set_option maxHeartbeats 800000 in
theorem made_7 (x y : Int) (w : World) : Calls Tryd.prog 117 #[.int .i64 7, .int .i64 x, .int .i64 y] w fun e w' => e = .returned (.int .i64 (wrap64 (x + y))) ∧ w = w' := by
  go_enter Tryd.func117, Tryd.ntmps117
  go_wp2
  all_goals go_ret
  all_goals exact ⟨xret (rfl), rfl⟩

set_option maxHeartbeats 800000 in
theorem made_8 (x y : Int) (w : World) : Calls Tryd.prog 117 #[.int .i64 8, .int .i64 x, .int .i64 y] w fun e w' => e = .returned (.int .i64 (wrap64 (x - y))) ∧ w = w' := by
  go_enter Tryd.func117, Tryd.ntmps117
  go_wp2
  all_goals go_ret
  all_goals exact ⟨xret (rfl), rfl⟩

set_option maxHeartbeats 800000 in
theorem made_9 (x y : Int) (w : World) : Calls Tryd.prog 117 #[.int .i64 9, .int .i64 x, .int .i64 y] w fun e w' => e = .returned (.int .i64 (wrap64 (x * y))) ∧ w = w' := by
  go_enter Tryd.func117, Tryd.ntmps117
  go_wp2
  all_goals go_ret
  all_goals exact ⟨xret (rfl), rfl⟩

set_option maxHeartbeats 800000 in
theorem made_10 (x y : Int) (w : World) (hy : ¬ y = 0) : Calls Tryd.prog 117 #[.int .i64 10, .int .i64 x, .int .i64 y] w fun e w' => e = .returned (.int .i64 (wrap64 (x.tdiv y))) ∧ w = w' := by
  go_enter Tryd.func117, Tryd.ntmps117
  go_wp2
  all_goals go_ret
  all_goals exact ⟨xret (rfl), rfl⟩

set_option maxHeartbeats 800000 in
theorem made_11 (x y : Int) (w : World) (hy : ¬ y = 0) : Calls Tryd.prog 117 #[.int .i64 11, .int .i64 x, .int .i64 y] w fun e w' => e = .returned (.int .i64 (x.tmod y)) ∧ w = w' := by
  go_enter Tryd.func117, Tryd.ntmps117
  go_wp2
  all_goals go_ret
  all_goals exact ⟨xret (rfl), rfl⟩

set_option maxHeartbeats 800000 in
theorem made_12 (x y : Int) (w : World) : Calls Tryd.prog 117 #[.int .i64 12, .int .i64 x, .int .i64 y] w fun e w' => e = .returned (.int .i64 (bits .and .i64 x y)) ∧ w = w' := by
  go_enter Tryd.func117, Tryd.ntmps117
  go_wp2
  all_goals go_ret
  all_goals exact ⟨xret (rfl), rfl⟩

set_option maxHeartbeats 800000 in
theorem made_13 (x y : Int) (w : World) : Calls Tryd.prog 117 #[.int .i64 13, .int .i64 x, .int .i64 y] w fun e w' => e = .returned (.int .i64 (bits .or .i64 x y)) ∧ w = w' := by
  go_enter Tryd.func117, Tryd.ntmps117
  go_wp2
  all_goals go_ret
  all_goals exact ⟨xret (rfl), rfl⟩

set_option maxHeartbeats 800000 in
theorem made_14 (x y : Int) (w : World) : Calls Tryd.prog 117 #[.int .i64 14, .int .i64 x, .int .i64 y] w fun e w' => e = .returned (.int .i64 (bits .xor .i64 x y)) ∧ w = w' := by
  go_enter Tryd.func117, Tryd.ntmps117
  go_wp2
  all_goals go_ret
  all_goals exact ⟨xret (rfl), rfl⟩

set_option maxHeartbeats 800000 in
theorem made_16 (x y : Int) (w : World) : Calls Tryd.prog 117 #[.int .i64 16, .int .i64 x, .int .i64 y] w fun e w' => e = .returned (.int .i64 (if x = y then 1 else 0)) ∧ w = w' := by
  go_enter Tryd.func117, Tryd.ntmps117
  go_wp2
  all_goals go_ret
  all_goals exact ⟨xret (by simp_all), rfl⟩

set_option maxHeartbeats 800000 in
theorem made_17 (x y : Int) (w : World) : Calls Tryd.prog 117 #[.int .i64 17, .int .i64 x, .int .i64 y] w fun e w' => e = .returned (.int .i64 (if x < y then 1 else 0)) ∧ w = w' := by
  go_enter Tryd.func117, Tryd.ntmps117
  go_wp2
  all_goals go_ret
  all_goals exact ⟨xret (by first | (simp_all; done) | (split <;> omega)), rfl⟩

set_option maxHeartbeats 800000 in
theorem made_28 (x y : Int) (w : World) (h0 : 0 ≤ y) (h1 : y ≤ 63) : Calls Tryd.prog 117 #[.int .i64 28, .int .i64 x, .int .i64 y] w fun e w' => e = .returned (.int .i64 (wrap64 (x * 2 ^ y.toNat))) ∧ w = w' := by
  go_enter Tryd.func117, Tryd.ntmps117
  go_wp2
  all_goals go_ret
  all_goals exact ⟨xret (by first | rfl | (exfalso; omega)), rfl⟩

set_option maxHeartbeats 800000 in
theorem made_28n (x y : Int) (w : World) (h0 : y < 0) : Calls Tryd.prog 117 #[.int .i64 28, .int .i64 x, .int .i64 y] w fun e w' => e = .returned (.int .i64 (0)) ∧ w = w' := by
  go_enter Tryd.func117, Tryd.ntmps117
  go_wp2
  all_goals go_ret
  all_goals exact ⟨xret (rfl), rfl⟩

set_option maxHeartbeats 800000 in
theorem made_28m (x y : Int) (w : World) (h0 : 0 ≤ y) (h1 : 63 < y) : Calls Tryd.prog 117 #[.int .i64 28, .int .i64 x, .int .i64 y] w fun e w' => e = .returned (.int .i64 (0)) ∧ w = w' := by
  go_enter Tryd.func117, Tryd.ntmps117
  go_wp2
  all_goals go_ret
  all_goals exact ⟨xret (rfl), rfl⟩

set_option maxHeartbeats 800000 in
theorem made_29 (x y : Int) (w : World) (h0 : 0 ≤ y) (h1 : y ≤ 63) : Calls Tryd.prog 117 #[.int .i64 29, .int .i64 x, .int .i64 y] w fun e w' => e = .returned (.int .i64 (x / 2 ^ y.toNat)) ∧ w = w' := by
  go_enter Tryd.func117, Tryd.ntmps117
  go_wp2
  all_goals go_ret
  all_goals exact ⟨xret (by first | rfl | (exfalso; omega)), rfl⟩

set_option maxHeartbeats 800000 in
theorem made_29n (x y : Int) (w : World) (h0 : y < 0) : Calls Tryd.prog 117 #[.int .i64 29, .int .i64 x, .int .i64 y] w fun e w' => e = .returned (.int .i64 (0)) ∧ w = w' := by
  go_enter Tryd.func117, Tryd.ntmps117
  go_wp2
  all_goals go_ret
  all_goals exact ⟨xret (rfl), rfl⟩

set_option maxHeartbeats 800000 in
theorem made_29m (x y : Int) (w : World) (h0 : 0 ≤ y) (h1 : 63 < y) : Calls Tryd.prog 117 #[.int .i64 29, .int .i64 x, .int .i64 y] w fun e w' => e = .returned (.int .i64 (0)) ∧ w = w' := by
  go_enter Tryd.func117, Tryd.ntmps117
  go_wp2
  all_goals go_ret
  all_goals exact ⟨xret (rfl), rfl⟩

theorem made_any (s x y : Int) (w : World) (hs : signK s = true) (hy : s = 10 ∨ s = 11 → ¬ y = 0) : Calls Tryd.prog 117 #[.int .i64 s, .int .i64 x, .int .i64 y] w fun e w' => e = .returned (.int .i64 (rawK s x y)) ∧ w = w' := by
  by_cases h7 : s = 7
  · subst h7; exact made_7 x y w
  by_cases h8 : s = 8
  · subst h8; exact made_8 x y w
  by_cases h9 : s = 9
  · subst h9; exact made_9 x y w
  by_cases h10 : s = 10
  · subst h10; exact made_10 x y w (hy (by omega))
  by_cases h11 : s = 11
  · subst h11; exact made_11 x y w (hy (by omega))
  by_cases h12 : s = 12
  · subst h12; exact made_12 x y w
  by_cases h13 : s = 13
  · subst h13; exact made_13 x y w
  by_cases h14 : s = 14
  · subst h14; exact made_14 x y w
  by_cases h16 : s = 16
  · subst h16; exact made_16 x y w
  by_cases h17 : s = 17
  · subst h17; exact made_17 x y w
  by_cases h28 : s = 28
  · subst h28
    by_cases g0 : y < 0
    · rw [show rawK 28 x y = 0 by simp [rawK]; omega]; exact made_28n x y w g0
    · by_cases g1 : y ≤ 63
      · have e : rawK 28 x y = wrap64 (x * 2 ^ y.toNat) := by unfold rawK; simp; omega
        rw [e]; exact made_28 x y w (by omega) g1
      · rw [show rawK 28 x y = 0 by simp [rawK]; omega]; exact made_28m x y w (by omega) (by omega)
  by_cases h29 : s = 29
  · subst h29
    by_cases g0 : y < 0
    · rw [show rawK 29 x y = 0 by simp [rawK]; omega]; exact made_29n x y w g0
    · by_cases g1 : y ≤ 63
      · have e : rawK 29 x y = x / 2 ^ y.toNat := by unfold rawK; simp; omega
        rw [e]; exact made_29 x y w (by omega) g1
      · rw [show rawK 29 x y = 0 by simp [rawK]; omega]; exact made_29m x y w (by omega) (by omega)
  exact absurd hs (by simp [signK, h7, h8, h9, h10, h11, h12, h13, h14, h16, h17, h28, h29])

set_option maxHeartbeats 1000000 in
theorem ptwo_bad (s a b x y m e : Int) (w : World) (K : ∀ u, Calls Tryd.prog 109 #[.int .i64 s, .int .i64 a, .int .i64 b] u fun r u' => r = .returned (.tuple #[.int .i64 m, .int .i64 e]) ∧ Below u.heap.size u u') (he : (e != 0) = true) (he' : (e == 0) = false) :
    Calls Tryd.prog 108 #[.int .i64 s, .int .i64 a, .int .i64 b, .int .i64 x, .int .i64 y] w fun r w' => r = .returned (.tuple #[.int .i64 (0), .int .i64 (e)]) ∧ Below w.heap.size w w' := by
  have HK := Lib.hid K
  clear K
  go_enter Tryd.func108, Tryd.ntmps108
  go_wp2_with fail
  refine (HK.out _).mono ?_
  rintro r u1 ⟨rfl, hb⟩
  have HB := Lib.hid hb
  clear hb
  go_wp2
  go_ret2
  exact ⟨rfl, HB.out⟩

set_option maxHeartbeats 1000000 in
theorem ptwo_div10 (s a b x y m e : Int) (w : World) (K : ∀ u, Calls Tryd.prog 109 #[.int .i64 s, .int .i64 a, .int .i64 b] u fun r u' => r = .returned (.tuple #[.int .i64 m, .int .i64 e]) ∧ Below u.heap.size u u') (he : e = 0) (hs : s = 10) (hy : y = 0) :
    Calls Tryd.prog 108 #[.int .i64 s, .int .i64 a, .int .i64 b, .int .i64 x, .int .i64 y] w fun r w' => r = .returned (.tuple #[.int .i64 (0), .int .i64 (21)]) ∧ Below w.heap.size w w' := by
  have HK := Lib.hid K
  clear K
  subst he; subst hs; subst hy
  go_enter Tryd.func108, Tryd.ntmps108
  go_wp2_with fail
  refine (HK.out _).mono ?_
  rintro r u1 ⟨rfl, hb⟩
  have HB := Lib.hid hb
  clear hb
  go_wp2
  go_ret2
  exact ⟨rfl, HB.out⟩

set_option maxHeartbeats 1000000 in
theorem ptwo_div11 (s a b x y m e : Int) (w : World) (K : ∀ u, Calls Tryd.prog 109 #[.int .i64 s, .int .i64 a, .int .i64 b] u fun r u' => r = .returned (.tuple #[.int .i64 m, .int .i64 e]) ∧ Below u.heap.size u u') (he : e = 0) (hs : s = 11) (hy : y = 0) :
    Calls Tryd.prog 108 #[.int .i64 s, .int .i64 a, .int .i64 b, .int .i64 x, .int .i64 y] w fun r w' => r = .returned (.tuple #[.int .i64 (0), .int .i64 (21)]) ∧ Below w.heap.size w w' := by
  have HK := Lib.hid K
  clear K
  subst he; subst hs; subst hy
  go_enter Tryd.func108, Tryd.ntmps108
  go_wp2_with fail
  refine (HK.out _).mono ?_
  rintro r u1 ⟨rfl, hb⟩
  have HB := Lib.hid hb
  clear hb
  go_wp2
  go_ret2
  exact ⟨rfl, HB.out⟩

set_option maxHeartbeats 1000000 in
theorem rtwo_bad (s a b x y m e : Int) (w : World) (K : ∀ u, Calls Tryd.prog 42 #[.int .i64 s, .int .i64 a, .int .i64 b] u fun r u' => r = .returned (.tuple #[.int .i64 m, .int .i64 e]) ∧ u = u') (he : (e != 0) = true) (he' : (e == 0) = false) :
    Calls Tryd.prog 27 #[.int .i64 s, .int .i64 a, .int .i64 b, .int .i64 x, .int .i64 y] w fun r w' => r = .returned (.tuple #[.int .i64 (0), .int .i64 (e)]) ∧ w = w' := by
  have HK := Lib.hid K
  clear K
  go_enter Tryd.func27, Tryd.ntmps27
  go_wp2_with fail
  refine (HK.out _).mono ?_
  rintro r u1 ⟨rfl, hb⟩
  subst hb
  go_wp2
  go_ret2
  exact ⟨rfl, rfl⟩

set_option maxHeartbeats 1000000 in
theorem rtwo_div10 (s a b x y m e : Int) (w : World) (K : ∀ u, Calls Tryd.prog 42 #[.int .i64 s, .int .i64 a, .int .i64 b] u fun r u' => r = .returned (.tuple #[.int .i64 m, .int .i64 e]) ∧ u = u') (he : e = 0) (hs : s = 10) (hy : y = 0) :
    Calls Tryd.prog 27 #[.int .i64 s, .int .i64 a, .int .i64 b, .int .i64 x, .int .i64 y] w fun r w' => r = .returned (.tuple #[.int .i64 (0), .int .i64 (21)]) ∧ w = w' := by
  have HK := Lib.hid K
  clear K
  subst he; subst hs; subst hy
  go_enter Tryd.func27, Tryd.ntmps27
  go_wp2_with fail
  refine (HK.out _).mono ?_
  rintro r u1 ⟨rfl, hb⟩
  subst hb
  go_wp2
  go_ret2
  exact ⟨rfl, rfl⟩

set_option maxHeartbeats 1000000 in
theorem rtwo_div11 (s a b x y m e : Int) (w : World) (K : ∀ u, Calls Tryd.prog 42 #[.int .i64 s, .int .i64 a, .int .i64 b] u fun r u' => r = .returned (.tuple #[.int .i64 m, .int .i64 e]) ∧ u = u') (he : e = 0) (hs : s = 11) (hy : y = 0) :
    Calls Tryd.prog 27 #[.int .i64 s, .int .i64 a, .int .i64 b, .int .i64 x, .int .i64 y] w fun r w' => r = .returned (.tuple #[.int .i64 (0), .int .i64 (21)]) ∧ w = w' := by
  have HK := Lib.hid K
  clear K
  subst he; subst hs; subst hy
  go_enter Tryd.func27, Tryd.ntmps27
  go_wp2_with fail
  refine (HK.out _).mono ?_
  rintro r u1 ⟨rfl, hb⟩
  subst hb
  go_wp2
  go_ret2
  exact ⟨rfl, rfl⟩

set_option maxHeartbeats 1000000 in
theorem ptwo_fine10 (s a b x y m e : Int) (w : World) (K : ∀ u, Calls Tryd.prog 109 #[.int .i64 s, .int .i64 a, .int .i64 b] u fun r u' => r = .returned (.tuple #[.int .i64 m, .int .i64 e]) ∧ Below u.heap.size u u') (he : e = 0) (h10 : s = 10) (hyz : (y == 0) = false) :
    Calls Tryd.prog 108 #[.int .i64 s, .int .i64 a, .int .i64 b, .int .i64 x, .int .i64 y] w fun r w' => r = .returned (.tuple #[.int .i64 (wrapK m (rawK s x y)), .int .i64 (0)]) ∧ Below w.heap.size w w' := by
  have HK := Lib.hid K
  clear K
  have hs : signK s = true := by subst h10; rfl
  have hy : s = 10 ∨ s = 11 → ¬ y = 0 := fun _ => by simpa using hyz
  have HM := Lib.hid (fun u => made_any s x y u hs hy)
  clear hs hy
  subst he; subst h10
  go_enter Tryd.func108, Tryd.ntmps108
  go_wp2_with fail
  refine (HK.out _).mono ?_
  rintro r u1 ⟨rfl, hb⟩
  have HB := Lib.hid hb
  clear hb
  go_wp2_with (first | (go_at_call 117; (with_reducible refine (HM.out _).mono ?_); rintro r _ ⟨rfl, rfl⟩) | (go_at_call 88; (with_reducible refine (pwrap_any _ _ _).mono ?_); rintro r _ ⟨rfl, rfl⟩))
  go_ret2
  exact ⟨rfl, HB.out⟩

set_option maxHeartbeats 1000000 in
theorem ptwo_fine11 (s a b x y m e : Int) (w : World) (K : ∀ u, Calls Tryd.prog 109 #[.int .i64 s, .int .i64 a, .int .i64 b] u fun r u' => r = .returned (.tuple #[.int .i64 m, .int .i64 e]) ∧ Below u.heap.size u u') (he : e = 0) (h10 : s = 11) (hyz : (y == 0) = false) :
    Calls Tryd.prog 108 #[.int .i64 s, .int .i64 a, .int .i64 b, .int .i64 x, .int .i64 y] w fun r w' => r = .returned (.tuple #[.int .i64 (wrapK m (rawK s x y)), .int .i64 (0)]) ∧ Below w.heap.size w w' := by
  have HK := Lib.hid K
  clear K
  have hs : signK s = true := by subst h10; rfl
  have hy : s = 10 ∨ s = 11 → ¬ y = 0 := fun _ => by simpa using hyz
  have HM := Lib.hid (fun u => made_any s x y u hs hy)
  clear hs hy
  subst he; subst h10
  go_enter Tryd.func108, Tryd.ntmps108
  go_wp2_with fail
  refine (HK.out _).mono ?_
  rintro r u1 ⟨rfl, hb⟩
  have HB := Lib.hid hb
  clear hb
  go_wp2_with (first | (go_at_call 117; (with_reducible refine (HM.out _).mono ?_); rintro r _ ⟨rfl, rfl⟩) | (go_at_call 88; (with_reducible refine (pwrap_any _ _ _).mono ?_); rintro r _ ⟨rfl, rfl⟩))
  go_ret2
  exact ⟨rfl, HB.out⟩

set_option maxHeartbeats 1000000 in
theorem ptwo_fineelse (s a b x y m e : Int) (w : World) (K : ∀ u, Calls Tryd.prog 109 #[.int .i64 s, .int .i64 a, .int .i64 b] u fun r u' => r = .returned (.tuple #[.int .i64 m, .int .i64 e]) ∧ Below u.heap.size u u') (he : e = 0) (hs : signK s = true) (h10 : (s == 10) = false) (h11 : (s == 11) = false) :
    Calls Tryd.prog 108 #[.int .i64 s, .int .i64 a, .int .i64 b, .int .i64 x, .int .i64 y] w fun r w' => r = .returned (.tuple #[.int .i64 (wrapK m (rawK s x y)), .int .i64 (0)]) ∧ Below w.heap.size w w' := by
  have HK := Lib.hid K
  clear K
  have hy : s = 10 ∨ s = 11 → ¬ y = 0 := fun h => by simp at h10 h11; omega
  have HM := Lib.hid (fun u => made_any s x y u hs hy)
  clear hs hy
  subst he
  go_enter Tryd.func108, Tryd.ntmps108
  go_wp2_with fail
  refine (HK.out _).mono ?_
  rintro r u1 ⟨rfl, hb⟩
  have HB := Lib.hid hb
  clear hb
  go_wp2_with (first | (go_at_call 117; (with_reducible refine (HM.out _).mono ?_); rintro r _ ⟨rfl, rfl⟩) | (go_at_call 88; (with_reducible refine (pwrap_any _ _ _).mono ?_); rintro r _ ⟨rfl, rfl⟩))
  go_ret2
  exact ⟨rfl, HB.out⟩

set_option maxHeartbeats 1000000 in
theorem rtwo_fine7 (s a b x y m e : Int) (w : World) (K : ∀ u, Calls Tryd.prog 42 #[.int .i64 s, .int .i64 a, .int .i64 b] u fun r u' => r = .returned (.tuple #[.int .i64 m, .int .i64 e]) ∧ u = u') (he : e = 0) (hs : s = 7) :
    Calls Tryd.prog 27 #[.int .i64 s, .int .i64 a, .int .i64 b, .int .i64 x, .int .i64 y] w fun r w' => r = .returned (.tuple #[.int .i64 (wrapK m (wrap64 (x + y))), .int .i64 (0)]) ∧ w = w' := by
  have HK := Lib.hid K
  clear K
  subst he; subst hs
  go_enter Tryd.func27, Tryd.ntmps27
  go_wp2_with fail
  refine (HK.out _).mono ?_
  rintro r u1 ⟨rfl, hb⟩
  subst hb
  go_wp2_with (first | (go_at_call 43; go_in) | (go_at_call 26; (with_reducible refine (rwrap_any _ _ _).mono ?_); rintro r _ ⟨rfl, rfl⟩))
  go_ret2
  exact ⟨rfl, rfl⟩

set_option maxHeartbeats 1000000 in
theorem rtwo_fine8 (s a b x y m e : Int) (w : World) (K : ∀ u, Calls Tryd.prog 42 #[.int .i64 s, .int .i64 a, .int .i64 b] u fun r u' => r = .returned (.tuple #[.int .i64 m, .int .i64 e]) ∧ u = u') (he : e = 0) (hs : s = 8) :
    Calls Tryd.prog 27 #[.int .i64 s, .int .i64 a, .int .i64 b, .int .i64 x, .int .i64 y] w fun r w' => r = .returned (.tuple #[.int .i64 (wrapK m (wrap64 (x - y))), .int .i64 (0)]) ∧ w = w' := by
  have HK := Lib.hid K
  clear K
  subst he; subst hs
  go_enter Tryd.func27, Tryd.ntmps27
  go_wp2_with fail
  refine (HK.out _).mono ?_
  rintro r u1 ⟨rfl, hb⟩
  subst hb
  go_wp2_with (first | (go_at_call 43; go_in) | (go_at_call 26; (with_reducible refine (rwrap_any _ _ _).mono ?_); rintro r _ ⟨rfl, rfl⟩))
  go_ret2
  exact ⟨rfl, rfl⟩

set_option maxHeartbeats 1000000 in
theorem rtwo_fine9 (s a b x y m e : Int) (w : World) (K : ∀ u, Calls Tryd.prog 42 #[.int .i64 s, .int .i64 a, .int .i64 b] u fun r u' => r = .returned (.tuple #[.int .i64 m, .int .i64 e]) ∧ u = u') (he : e = 0) (hs : s = 9) :
    Calls Tryd.prog 27 #[.int .i64 s, .int .i64 a, .int .i64 b, .int .i64 x, .int .i64 y] w fun r w' => r = .returned (.tuple #[.int .i64 (wrapK m (wrap64 (x * y))), .int .i64 (0)]) ∧ w = w' := by
  have HK := Lib.hid K
  clear K
  subst he; subst hs
  go_enter Tryd.func27, Tryd.ntmps27
  go_wp2_with fail
  refine (HK.out _).mono ?_
  rintro r u1 ⟨rfl, hb⟩
  subst hb
  go_wp2_with (first | (go_at_call 43; go_in) | (go_at_call 26; (with_reducible refine (rwrap_any _ _ _).mono ?_); rintro r _ ⟨rfl, rfl⟩))
  go_ret2
  exact ⟨rfl, rfl⟩

set_option maxHeartbeats 1000000 in
theorem rtwo_fine10 (s a b x y m e : Int) (w : World) (K : ∀ u, Calls Tryd.prog 42 #[.int .i64 s, .int .i64 a, .int .i64 b] u fun r u' => r = .returned (.tuple #[.int .i64 m, .int .i64 e]) ∧ u = u') (he : e = 0) (hs : s = 10) (hy : ¬ y = 0) :
    Calls Tryd.prog 27 #[.int .i64 s, .int .i64 a, .int .i64 b, .int .i64 x, .int .i64 y] w fun r w' => r = .returned (.tuple #[.int .i64 (wrapK m (wrap64 (x.tdiv y))), .int .i64 (0)]) ∧ w = w' := by
  have HK := Lib.hid K
  clear K
  subst he; subst hs
  go_enter Tryd.func27, Tryd.ntmps27
  go_wp2_with fail
  refine (HK.out _).mono ?_
  rintro r u1 ⟨rfl, hb⟩
  subst hb
  go_wp2_with (first | (go_at_call 43; go_in) | (go_at_call 26; (with_reducible refine (rwrap_any _ _ _).mono ?_); rintro r _ ⟨rfl, rfl⟩))
  go_ret2
  exact ⟨rfl, rfl⟩

set_option maxHeartbeats 1000000 in
theorem rtwo_fine11 (s a b x y m e : Int) (w : World) (K : ∀ u, Calls Tryd.prog 42 #[.int .i64 s, .int .i64 a, .int .i64 b] u fun r u' => r = .returned (.tuple #[.int .i64 m, .int .i64 e]) ∧ u = u') (he : e = 0) (hs : s = 11) (hy : ¬ y = 0) :
    Calls Tryd.prog 27 #[.int .i64 s, .int .i64 a, .int .i64 b, .int .i64 x, .int .i64 y] w fun r w' => r = .returned (.tuple #[.int .i64 (wrapK m (x.tmod y)), .int .i64 (0)]) ∧ w = w' := by
  have HK := Lib.hid K
  clear K
  subst he; subst hs
  go_enter Tryd.func27, Tryd.ntmps27
  go_wp2_with fail
  refine (HK.out _).mono ?_
  rintro r u1 ⟨rfl, hb⟩
  subst hb
  go_wp2_with (first | (go_at_call 43; go_in) | (go_at_call 26; (with_reducible refine (rwrap_any _ _ _).mono ?_); rintro r _ ⟨rfl, rfl⟩))
  go_ret2
  exact ⟨rfl, rfl⟩

set_option maxHeartbeats 1000000 in
theorem rtwo_fine12 (s a b x y m e : Int) (w : World) (K : ∀ u, Calls Tryd.prog 42 #[.int .i64 s, .int .i64 a, .int .i64 b] u fun r u' => r = .returned (.tuple #[.int .i64 m, .int .i64 e]) ∧ u = u') (he : e = 0) (hs : s = 12) :
    Calls Tryd.prog 27 #[.int .i64 s, .int .i64 a, .int .i64 b, .int .i64 x, .int .i64 y] w fun r w' => r = .returned (.tuple #[.int .i64 (wrapK m (bits .and .i64 x y)), .int .i64 (0)]) ∧ w = w' := by
  have HK := Lib.hid K
  clear K
  subst he; subst hs
  go_enter Tryd.func27, Tryd.ntmps27
  go_wp2_with fail
  refine (HK.out _).mono ?_
  rintro r u1 ⟨rfl, hb⟩
  subst hb
  go_wp2_with (first | (go_at_call 43; go_in) | (go_at_call 26; (with_reducible refine (rwrap_any _ _ _).mono ?_); rintro r _ ⟨rfl, rfl⟩))
  go_ret2
  exact ⟨rfl, rfl⟩

set_option maxHeartbeats 1000000 in
theorem rtwo_fine13 (s a b x y m e : Int) (w : World) (K : ∀ u, Calls Tryd.prog 42 #[.int .i64 s, .int .i64 a, .int .i64 b] u fun r u' => r = .returned (.tuple #[.int .i64 m, .int .i64 e]) ∧ u = u') (he : e = 0) (hs : s = 13) :
    Calls Tryd.prog 27 #[.int .i64 s, .int .i64 a, .int .i64 b, .int .i64 x, .int .i64 y] w fun r w' => r = .returned (.tuple #[.int .i64 (wrapK m (bits .or .i64 x y)), .int .i64 (0)]) ∧ w = w' := by
  have HK := Lib.hid K
  clear K
  subst he; subst hs
  go_enter Tryd.func27, Tryd.ntmps27
  go_wp2_with fail
  refine (HK.out _).mono ?_
  rintro r u1 ⟨rfl, hb⟩
  subst hb
  go_wp2_with (first | (go_at_call 43; go_in) | (go_at_call 26; (with_reducible refine (rwrap_any _ _ _).mono ?_); rintro r _ ⟨rfl, rfl⟩))
  go_ret2
  exact ⟨rfl, rfl⟩

set_option maxHeartbeats 1000000 in
theorem rtwo_fine14 (s a b x y m e : Int) (w : World) (K : ∀ u, Calls Tryd.prog 42 #[.int .i64 s, .int .i64 a, .int .i64 b] u fun r u' => r = .returned (.tuple #[.int .i64 m, .int .i64 e]) ∧ u = u') (he : e = 0) (hs : s = 14) :
    Calls Tryd.prog 27 #[.int .i64 s, .int .i64 a, .int .i64 b, .int .i64 x, .int .i64 y] w fun r w' => r = .returned (.tuple #[.int .i64 (wrapK m (bits .xor .i64 x y)), .int .i64 (0)]) ∧ w = w' := by
  have HK := Lib.hid K
  clear K
  subst he; subst hs
  go_enter Tryd.func27, Tryd.ntmps27
  go_wp2_with fail
  refine (HK.out _).mono ?_
  rintro r u1 ⟨rfl, hb⟩
  subst hb
  go_wp2_with (first | (go_at_call 43; go_in) | (go_at_call 26; (with_reducible refine (rwrap_any _ _ _).mono ?_); rintro r _ ⟨rfl, rfl⟩))
  go_ret2
  exact ⟨rfl, rfl⟩

set_option maxHeartbeats 1000000 in
theorem rtwo_fine16t (s a b x y m e : Int) (w : World) (K : ∀ u, Calls Tryd.prog 42 #[.int .i64 s, .int .i64 a, .int .i64 b] u fun r u' => r = .returned (.tuple #[.int .i64 m, .int .i64 e]) ∧ u = u') (he : e = 0) (hs : s = 16) (hy : (x == y) = true) :
    Calls Tryd.prog 27 #[.int .i64 s, .int .i64 a, .int .i64 b, .int .i64 x, .int .i64 y] w fun r w' => r = .returned (.tuple #[.int .i64 (wrapK m (1)), .int .i64 (0)]) ∧ w = w' := by
  have HK := Lib.hid K
  clear K
  subst he; subst hs
  go_enter Tryd.func27, Tryd.ntmps27
  go_wp2_with fail
  refine (HK.out _).mono ?_
  rintro r u1 ⟨rfl, hb⟩
  subst hb
  go_wp2_with (first | (go_at_call 43; go_in) | (go_at_call 26; (with_reducible refine (rwrap_any _ _ _).mono ?_); rintro r _ ⟨rfl, rfl⟩))
  go_ret2
  exact ⟨rfl, rfl⟩

set_option maxHeartbeats 1000000 in
theorem rtwo_fine16f (s a b x y m e : Int) (w : World) (K : ∀ u, Calls Tryd.prog 42 #[.int .i64 s, .int .i64 a, .int .i64 b] u fun r u' => r = .returned (.tuple #[.int .i64 m, .int .i64 e]) ∧ u = u') (he : e = 0) (hs : s = 16) (hy : (x == y) = false) :
    Calls Tryd.prog 27 #[.int .i64 s, .int .i64 a, .int .i64 b, .int .i64 x, .int .i64 y] w fun r w' => r = .returned (.tuple #[.int .i64 (wrapK m (0)), .int .i64 (0)]) ∧ w = w' := by
  have HK := Lib.hid K
  clear K
  subst he; subst hs
  go_enter Tryd.func27, Tryd.ntmps27
  go_wp2_with fail
  refine (HK.out _).mono ?_
  rintro r u1 ⟨rfl, hb⟩
  subst hb
  go_wp2_with (first | (go_at_call 43; go_in) | (go_at_call 26; (with_reducible refine (rwrap_any _ _ _).mono ?_); rintro r _ ⟨rfl, rfl⟩))
  go_ret2
  exact ⟨rfl, rfl⟩

set_option maxHeartbeats 1000000 in
theorem rtwo_fine17t (s a b x y m e : Int) (w : World) (K : ∀ u, Calls Tryd.prog 42 #[.int .i64 s, .int .i64 a, .int .i64 b] u fun r u' => r = .returned (.tuple #[.int .i64 m, .int .i64 e]) ∧ u = u') (he : e = 0) (hs : s = 17) (hy : x < y) :
    Calls Tryd.prog 27 #[.int .i64 s, .int .i64 a, .int .i64 b, .int .i64 x, .int .i64 y] w fun r w' => r = .returned (.tuple #[.int .i64 (wrapK m (1)), .int .i64 (0)]) ∧ w = w' := by
  have HK := Lib.hid K
  clear K
  subst he; subst hs
  go_enter Tryd.func27, Tryd.ntmps27
  go_wp2_with fail
  refine (HK.out _).mono ?_
  rintro r u1 ⟨rfl, hb⟩
  subst hb
  go_wp2_with (first | (go_at_call 43; go_in) | (go_at_call 26; (with_reducible refine (rwrap_any _ _ _).mono ?_); rintro r _ ⟨rfl, rfl⟩))
  go_ret2
  exact ⟨rfl, rfl⟩

set_option maxHeartbeats 1000000 in
theorem rtwo_fine17f (s a b x y m e : Int) (w : World) (K : ∀ u, Calls Tryd.prog 42 #[.int .i64 s, .int .i64 a, .int .i64 b] u fun r u' => r = .returned (.tuple #[.int .i64 m, .int .i64 e]) ∧ u = u') (he : e = 0) (hs : s = 17) (hy : ¬ x < y) (hy' : decide (x < y) = false) :
    Calls Tryd.prog 27 #[.int .i64 s, .int .i64 a, .int .i64 b, .int .i64 x, .int .i64 y] w fun r w' => r = .returned (.tuple #[.int .i64 (wrapK m (0)), .int .i64 (0)]) ∧ w = w' := by
  have HK := Lib.hid K
  clear K
  subst he; subst hs
  go_enter Tryd.func27, Tryd.ntmps27
  go_wp2_with fail
  refine (HK.out _).mono ?_
  rintro r u1 ⟨rfl, hb⟩
  subst hb
  go_wp2_with (first | (go_at_call 43; go_in) | (go_at_call 26; (with_reducible refine (rwrap_any _ _ _).mono ?_); rintro r _ ⟨rfl, rfl⟩))
  go_ret2
  exact ⟨rfl, rfl⟩

set_option maxHeartbeats 1000000 in
theorem rtwo_fine28 (s a b x y m e : Int) (w : World) (K : ∀ u, Calls Tryd.prog 42 #[.int .i64 s, .int .i64 a, .int .i64 b] u fun r u' => r = .returned (.tuple #[.int .i64 m, .int .i64 e]) ∧ u = u') (he : e = 0) (hs : s = 28) (h0 : 0 ≤ y) (h1 : y ≤ 63) :
    Calls Tryd.prog 27 #[.int .i64 s, .int .i64 a, .int .i64 b, .int .i64 x, .int .i64 y] w fun r w' => r = .returned (.tuple #[.int .i64 (wrapK m (wrap64 (x * 2 ^ y.toNat))), .int .i64 (0)]) ∧ w = w' := by
  have HK := Lib.hid K
  clear K
  subst he; subst hs
  go_enter Tryd.func27, Tryd.ntmps27
  go_wp2_with fail
  refine (HK.out _).mono ?_
  rintro r u1 ⟨rfl, hb⟩
  subst hb
  go_wp2_with (first | (go_at_call 43; go_in) | (go_at_call 26; (with_reducible refine (rwrap_any _ _ _).mono ?_); rintro r _ ⟨rfl, rfl⟩))
  go_ret2
  exact ⟨rfl, rfl⟩

set_option maxHeartbeats 1000000 in
theorem rtwo_fine28n (s a b x y m e : Int) (w : World) (K : ∀ u, Calls Tryd.prog 42 #[.int .i64 s, .int .i64 a, .int .i64 b] u fun r u' => r = .returned (.tuple #[.int .i64 m, .int .i64 e]) ∧ u = u') (he : e = 0) (hs : s = 28) (h0 : y < 0) (h0' : decide (0 ≤ y) = false) :
    Calls Tryd.prog 27 #[.int .i64 s, .int .i64 a, .int .i64 b, .int .i64 x, .int .i64 y] w fun r w' => r = .returned (.tuple #[.int .i64 (wrapK m (0)), .int .i64 (0)]) ∧ w = w' := by
  have HK := Lib.hid K
  clear K
  subst he; subst hs
  go_enter Tryd.func27, Tryd.ntmps27
  go_wp2_with fail
  refine (HK.out _).mono ?_
  rintro r u1 ⟨rfl, hb⟩
  subst hb
  go_wp2_with (first | (go_at_call 43; go_in) | (go_at_call 26; (with_reducible refine (rwrap_any _ _ _).mono ?_); rintro r _ ⟨rfl, rfl⟩))
  go_ret2
  exact ⟨rfl, rfl⟩

set_option maxHeartbeats 1000000 in
theorem rtwo_fine28m (s a b x y m e : Int) (w : World) (K : ∀ u, Calls Tryd.prog 42 #[.int .i64 s, .int .i64 a, .int .i64 b] u fun r u' => r = .returned (.tuple #[.int .i64 m, .int .i64 e]) ∧ u = u') (he : e = 0) (hs : s = 28) (h0 : 0 ≤ y) (h1 : 63 < y) (h1' : decide (y ≤ 63) = false) :
    Calls Tryd.prog 27 #[.int .i64 s, .int .i64 a, .int .i64 b, .int .i64 x, .int .i64 y] w fun r w' => r = .returned (.tuple #[.int .i64 (wrapK m (0)), .int .i64 (0)]) ∧ w = w' := by
  have HK := Lib.hid K
  clear K
  subst he; subst hs
  go_enter Tryd.func27, Tryd.ntmps27
  go_wp2_with fail
  refine (HK.out _).mono ?_
  rintro r u1 ⟨rfl, hb⟩
  subst hb
  go_wp2_with (first | (go_at_call 43; go_in) | (go_at_call 26; (with_reducible refine (rwrap_any _ _ _).mono ?_); rintro r _ ⟨rfl, rfl⟩))
  go_ret2
  exact ⟨rfl, rfl⟩

set_option maxHeartbeats 1000000 in
theorem rtwo_fine29 (s a b x y m e : Int) (w : World) (K : ∀ u, Calls Tryd.prog 42 #[.int .i64 s, .int .i64 a, .int .i64 b] u fun r u' => r = .returned (.tuple #[.int .i64 m, .int .i64 e]) ∧ u = u') (he : e = 0) (hs : s = 29) (h0 : 0 ≤ y) (h1 : y ≤ 63) :
    Calls Tryd.prog 27 #[.int .i64 s, .int .i64 a, .int .i64 b, .int .i64 x, .int .i64 y] w fun r w' => r = .returned (.tuple #[.int .i64 (wrapK m (x / 2 ^ y.toNat)), .int .i64 (0)]) ∧ w = w' := by
  have HK := Lib.hid K
  clear K
  subst he; subst hs
  go_enter Tryd.func27, Tryd.ntmps27
  go_wp2_with fail
  refine (HK.out _).mono ?_
  rintro r u1 ⟨rfl, hb⟩
  subst hb
  go_wp2_with (first | (go_at_call 43; go_in) | (go_at_call 26; (with_reducible refine (rwrap_any _ _ _).mono ?_); rintro r _ ⟨rfl, rfl⟩))
  go_ret2
  exact ⟨rfl, rfl⟩

set_option maxHeartbeats 1000000 in
theorem rtwo_fine29n (s a b x y m e : Int) (w : World) (K : ∀ u, Calls Tryd.prog 42 #[.int .i64 s, .int .i64 a, .int .i64 b] u fun r u' => r = .returned (.tuple #[.int .i64 m, .int .i64 e]) ∧ u = u') (he : e = 0) (hs : s = 29) (h0 : y < 0) (h0' : decide (0 ≤ y) = false) :
    Calls Tryd.prog 27 #[.int .i64 s, .int .i64 a, .int .i64 b, .int .i64 x, .int .i64 y] w fun r w' => r = .returned (.tuple #[.int .i64 (wrapK m (0)), .int .i64 (0)]) ∧ w = w' := by
  have HK := Lib.hid K
  clear K
  subst he; subst hs
  go_enter Tryd.func27, Tryd.ntmps27
  go_wp2_with fail
  refine (HK.out _).mono ?_
  rintro r u1 ⟨rfl, hb⟩
  subst hb
  go_wp2_with (first | (go_at_call 43; go_in) | (go_at_call 26; (with_reducible refine (rwrap_any _ _ _).mono ?_); rintro r _ ⟨rfl, rfl⟩))
  go_ret2
  exact ⟨rfl, rfl⟩

set_option maxHeartbeats 1000000 in
theorem rtwo_fine29m (s a b x y m e : Int) (w : World) (K : ∀ u, Calls Tryd.prog 42 #[.int .i64 s, .int .i64 a, .int .i64 b] u fun r u' => r = .returned (.tuple #[.int .i64 m, .int .i64 e]) ∧ u = u') (he : e = 0) (hs : s = 29) (h0 : 0 ≤ y) (h1 : 63 < y) (h1' : decide (y ≤ 63) = false) :
    Calls Tryd.prog 27 #[.int .i64 s, .int .i64 a, .int .i64 b, .int .i64 x, .int .i64 y] w fun r w' => r = .returned (.tuple #[.int .i64 (wrapK m (0)), .int .i64 (0)]) ∧ w = w' := by
  have HK := Lib.hid K
  clear K
  subst he; subst hs
  go_enter Tryd.func27, Tryd.ntmps27
  go_wp2_with fail
  refine (HK.out _).mono ?_
  rintro r u1 ⟨rfl, hb⟩
  subst hb
  go_wp2_with (first | (go_at_call 43; go_in) | (go_at_call 26; (with_reducible refine (rwrap_any _ _ _).mono ?_); rintro r _ ⟨rfl, rfl⟩))
  go_ret2
  exact ⟨rfl, rfl⟩

theorem ptwo_any (s a b x y : Int) (w : World) : Calls Tryd.prog 108 #[.int .i64 s, .int .i64 a, .int .i64 b, .int .i64 x, .int .i64 y] w fun r w' =>
    r = .returned (.tuple #[.int .i64 (twoM s a b x y), .int .i64 (twoE s a b y)]) ∧ Below w.heap.size w w' := by
  have K := fun u => pkind_any s a b u
  by_cases he : kindE s a b = 0
  · have hs : signK s = true := by
      by_cases h : signK s = true
      · exact h
      · exfalso; simp [kindE, h] at he
    have em : twoM s a b x y = if (s = 10 ∨ s = 11) ∧ y = 0 then 0 else wrapK (kindM s a b) (rawK s x y) := by simp [twoM, he]
    have ee : twoE s a b y = if (s = 10 ∨ s = 11) ∧ y = 0 then 21 else 0 := by simp [twoE, he]
    rw [em, ee]
    by_cases h10 : s = 10
    · by_cases hy : y = 0
      · rw [if_pos ⟨.inl h10, hy⟩, if_pos ⟨.inl h10, hy⟩]
        exact ptwo_div10 s a b x y _ _ w K he h10 hy
      · rw [if_neg (fun h => hy h.2), if_neg (fun h => hy h.2)]
        exact ptwo_fine10 s a b x y _ _ w K he h10 (by simpa using hy)
    · by_cases h11 : s = 11
      · by_cases hy : y = 0
        · rw [if_pos ⟨.inr h11, hy⟩, if_pos ⟨.inr h11, hy⟩]
          exact ptwo_div11 s a b x y _ _ w K he h11 hy
        · rw [if_neg (fun h => hy h.2), if_neg (fun h => hy h.2)]
          exact ptwo_fine11 s a b x y _ _ w K he h11 (by simpa using hy)
      · rw [if_neg (by omega), if_neg (by omega)]
        exact ptwo_fineelse s a b x y _ _ w K he hs (by simpa using h10) (by simpa using h11)
  · rw [show twoM s a b x y = 0 by simp [twoM, he], show twoE s a b y = kindE s a b by simp [twoE, he]]
    exact ptwo_bad s a b x y _ _ w K (by simpa using he) (by simpa using he)

theorem rtwo_any (s a b x y : Int) (w : World) : Calls Tryd.prog 27 #[.int .i64 s, .int .i64 a, .int .i64 b, .int .i64 x, .int .i64 y] w fun r w' =>
    r = .returned (.tuple #[.int .i64 (twoM s a b x y), .int .i64 (twoE s a b y)]) ∧ w = w' := by
  have K := fun u => rkind_any s a b u
  by_cases he : kindE s a b = 0
  · have hs : signK s = true := by
      by_cases h : signK s = true
      · exact h
      · exfalso; simp [kindE, h] at he
    have em : twoM s a b x y = if (s = 10 ∨ s = 11) ∧ y = 0 then 0 else wrapK (kindM s a b) (rawK s x y) := by simp [twoM, he]
    have ee : twoE s a b y = if (s = 10 ∨ s = 11) ∧ y = 0 then 21 else 0 := by simp [twoE, he]
    rw [em, ee]
    clear em ee
    generalize kindM s a b = m at *
    generalize kindE s a b = e at *
    by_cases h10 : s = 10
    · by_cases hy : y = 0
      · rw [if_pos ⟨.inl h10, hy⟩, if_pos ⟨.inl h10, hy⟩]
        exact rtwo_div10 s a b x y _ _ w K he h10 hy
      · rw [if_neg (fun h => hy h.2), if_neg (fun h => hy h.2)]
        subst h10
        exact rtwo_fine10 10 a b x y m e w K he rfl hy
    by_cases h11 : s = 11
    · by_cases hy : y = 0
      · rw [if_pos ⟨.inr h11, hy⟩, if_pos ⟨.inr h11, hy⟩]
        exact rtwo_div11 s a b x y _ _ w K he h11 hy
      · rw [if_neg (fun h => hy h.2), if_neg (fun h => hy h.2)]
        subst h11
        exact rtwo_fine11 11 a b x y m e w K he rfl hy
    rw [if_neg (by omega), if_neg (by omega)]
    by_cases h7 : s = 7
    · subst h7
      exact rtwo_fine7 7 a b x y m e w K he rfl
    by_cases h8 : s = 8
    · subst h8
      exact rtwo_fine8 8 a b x y m e w K he rfl
    by_cases h9 : s = 9
    · subst h9
      exact rtwo_fine9 9 a b x y m e w K he rfl
    by_cases h12 : s = 12
    · subst h12
      exact rtwo_fine12 12 a b x y m e w K he rfl
    by_cases h13 : s = 13
    · subst h13
      exact rtwo_fine13 13 a b x y m e w K he rfl
    by_cases h14 : s = 14
    · subst h14
      exact rtwo_fine14 14 a b x y m e w K he rfl
    by_cases h16 : s = 16
    · subst h16
      by_cases hy : x = y
      · rw [show rawK 16 x y = 1 by simp [rawK, hy]]
        exact rtwo_fine16t 16 a b x y m e w K he rfl (by simpa using hy)
      · rw [show rawK 16 x y = 0 by simp [rawK, hy]]
        exact rtwo_fine16f 16 a b x y m e w K he rfl (by simpa using hy)
    by_cases h17 : s = 17
    · subst h17
      by_cases hy : x < y
      · rw [show rawK 17 x y = 1 by simp [rawK, hy]]
        exact rtwo_fine17t 17 a b x y m e w K he rfl hy
      · rw [show rawK 17 x y = 0 by simp [rawK, hy]]
        exact rtwo_fine17f 17 a b x y m e w K he rfl hy (by simpa using hy)
    by_cases h28 : s = 28
    · subst h28
      by_cases g0 : y < 0
      · rw [show rawK 28 x y = 0 by simp [rawK]; omega]
        exact rtwo_fine28n 28 a b x y m e w K he rfl g0 (by simpa using g0)
      · by_cases g1 : y ≤ 63
        · have er : rawK 28 x y = wrap64 (x * 2 ^ y.toNat) := by unfold rawK; simp; omega
          rw [er]
          exact rtwo_fine28 28 a b x y m e w K he rfl (by omega) g1
        · rw [show rawK 28 x y = 0 by simp [rawK]; omega]
          exact rtwo_fine28m 28 a b x y m e w K he rfl (by omega) (by omega) (by simpa using g1)
    by_cases h29 : s = 29
    · subst h29
      by_cases g0 : y < 0
      · rw [show rawK 29 x y = 0 by simp [rawK]; omega]
        exact rtwo_fine29n 29 a b x y m e w K he rfl g0 (by simpa using g0)
      · by_cases g1 : y ≤ 63
        · have er : rawK 29 x y = x / 2 ^ y.toNat := by unfold rawK; simp; omega
          rw [er]
          exact rtwo_fine29 29 a b x y m e w K he rfl (by omega) g1
        · rw [show rawK 29 x y = 0 by simp [rawK]; omega]
          exact rtwo_fine29m 29 a b x y m e w K he rfl (by omega) (by omega) (by simpa using g1)
    exact absurd hs (by simp [signK, h7, h8, h9, h10, h11, h12, h13, h14, h16, h17, h28, h29])
  · rw [show twoM s a b x y = 0 by simp [twoM, he], show twoE s a b y = kindE s a b by simp [twoE, he]]
    exact rtwo_bad s a b x y _ _ w K (by simpa using he) (by simpa using he)
end Go.Proofs.YtngobbbinacomaaDoor.c11
