/- Chapter 11: Not and Conv, the program's and the document's; the laws' own helpers. -/
import Derived.Test.YtelfgfoonfajiaaC11
namespace Go.Proofs.Ytelfgfoonfajiaa
open Go.RowKit
set_option linter.unusedVariables false

/-- within(a, n) is a modulo n, from 0 on. -/
theorem within_any (a n : Int) (hn : 0 < n) (hn' : n ≤ 4611686018427387904) (w : World) :
    Calls Try.prog 16 #[.int .i64 a, .int .i64 n] w fun e w' => e = .returned (.int .i64 (a % n)) ∧ w = w' := by
  have h1 := Int.emod_nonneg a (show n ≠ 0 by omega)
  have h2 := Int.emod_lt_of_pos a hn
  have h3 : a.tmod n = if 0 ≤ a ∨ a % n = 0 then a % n else a % n - n := by
    rw [Int.tmod_eq_emod]
    by_cases h : 0 ≤ a ∨ n ∣ a
    · rw [if_pos h, if_pos]
      · omega
      · rcases h with h | h
        · exact .inl h
        · exact .inr (Int.emod_eq_zero_of_dvd h)
    · rw [if_neg h, if_neg]
      · rw [Int.natAbs_of_nonneg (by omega)]
      · intro hh
        rcases hh with hh | hh
        · exact h (.inl hh)
        · exact h (.inr (Int.dvd_of_emod_eq_zero hh))
  have h4 : ¬ n = 0 := by omega
  by_cases hneg : a.tmod n < 0
  · have H : Hid (a.tmod n + n = a % n) := Lib.hid (by split at h3 <;> omega)
    have hb : -n < a.tmod n := by split at h3 <;> omega
    clear h3 h1 h2
    go_enter Try.func16, Try.ntmps16
    go_wp2
    go_ret
    exact ⟨xret H.out, rfl⟩
  · have H : Hid (a.tmod n = a % n) := Lib.hid (by split at h3 <;> omega)
    clear h3 h1 h2
    go_enter Try.func16, Try.ntmps16
    go_wp2
    go_ret
    exact ⟨xret H.out, rfl⟩

theorem known_any (w : World) : Calls Try.prog 13 #[] w fun e w' => e = .returned (.bool true) ∧ Below w.heap.size w w' := by
  have K := fun u : World => ptwo_any 7 4 4 32767 1 u
  have e0 : wrap64 (32767 + 1) = 32768 := IntWalk.wrap64_in _ ⟨by omega, by omega⟩
  have e1 : twoM 7 4 4 32767 1 = -32768 := by simp only [twoM, kindE, kindM, signK, fitsK, rawK, wrapK, e0]; decide
  have e2 : twoE 7 4 4 1 = 0 := by decide
  rw [e1, e2] at K
  have HK := Lib.hid K
  clear K e0 e1 e2
  go_enter Try.func13, Try.ntmps13
  go_wp2_with fail
  refine (HK.out _).mono ?_
  rintro e u1 ⟨rfl, hb⟩
  have HB := Lib.hid hb
  clear hb
  go_wp2
  go_ret
  exact ⟨rfl, HB.out⟩

theorem pconv_any (a b x : Int) (w : World) : Calls Try.prog 21 #[.int .i64 a, .int .i64 b, .int .i64 x] w fun e w' => e = .returned (.int .i64 (wrapK b x)) ∧ w = w' := by
  go_enter Try.func21, Try.ntmps21
  go_wp2_with fail
  refine (pwrap_any _ _ _).mono ?_
  rintro e _ ⟨rfl, rfl⟩
  go_wp2
  go_ret
  exact ⟨rfl, rfl⟩

theorem rconv_any (a b x : Int) (w : World) : Calls Try.prog 24 #[.int .i64 a, .int .i64 b, .int .i64 x] w fun e w' => e = .returned (.int .i64 (wrapK b x)) ∧ w = w' := by
  go_enter Try.func24, Try.ntmps24
  go_wp2_with fail
  refine (rwrap_any _ _ _).mono ?_
  rintro e _ ⟨rfl, rfl⟩
  go_wp2
  go_ret
  exact ⟨rfl, rfl⟩

/-- A turned value. -/
def notK (k x : Int) : Int := if k = 1 then wrap64 (1 - x) else if k = 2 ∨ k = 3 then wrapK k (bits .xor .i64 (-1) x) else 0

theorem pnot_1 (x : Int) (w : World) : Calls Try.prog 22 #[.int .i64 1, .int .i64 x] w fun e w' => e = .returned (.int .i64 (wrap64 (1 - x))) ∧ w = w' := by
  go_enter Try.func22, Try.ntmps22
  go_wp2_with (go_at_call 27; (with_reducible refine (pwrap_any _ _ _).mono ?_); rintro e _ ⟨rfl, rfl⟩)
  go_ret
  exact ⟨rfl, rfl⟩

theorem pnot_2 (x : Int) (w : World) : Calls Try.prog 22 #[.int .i64 2, .int .i64 x] w fun e w' => e = .returned (.int .i64 (wrapK 2 (bits .xor .i64 (-1) x))) ∧ w = w' := by
  go_enter Try.func22, Try.ntmps22
  go_wp2_with (go_at_call 27; (with_reducible refine (pwrap_any _ _ _).mono ?_); rintro e _ ⟨rfl, rfl⟩)
  go_ret
  exact ⟨rfl, rfl⟩

theorem pnot_3 (x : Int) (w : World) : Calls Try.prog 22 #[.int .i64 3, .int .i64 x] w fun e w' => e = .returned (.int .i64 (wrapK 3 (bits .xor .i64 (-1) x))) ∧ w = w' := by
  go_enter Try.func22, Try.ntmps22
  go_wp2_with (go_at_call 27; (with_reducible refine (pwrap_any _ _ _).mono ?_); rintro e _ ⟨rfl, rfl⟩)
  go_ret
  exact ⟨rfl, rfl⟩

theorem pnot_x (k x : Int) (w : World) (h1 : (k == 1) = false) (h2 : (k == 2) = false) (h3 : (k == 3) = false) : Calls Try.prog 22 #[.int .i64 k, .int .i64 x] w fun e w' => e = .returned (.int .i64 (0)) ∧ w = w' := by
  go_enter Try.func22, Try.ntmps22
  go_wp2_with (go_at_call 27; (with_reducible refine (pwrap_any _ _ _).mono ?_); rintro e _ ⟨rfl, rfl⟩)
  go_ret
  exact ⟨rfl, rfl⟩

theorem pnot_any (k x : Int) (w : World) : Calls Try.prog 22 #[.int .i64 k, .int .i64 x] w fun e w' => e = .returned (.int .i64 (notK k x)) ∧ w = w' := by
  by_cases h1 : k = 1
  · subst h1; exact pnot_1 x w
  · by_cases h2 : k = 2
    · subst h2; exact pnot_2 x w
    · by_cases h3 : k = 3
      · subst h3; exact pnot_3 x w
      · rw [show notK k x = 0 by simp [notK, h1, h2, h3]]
        exact pnot_x k x w (by simpa using h1) (by simpa using h2) (by simpa using h3)

theorem rnot_1 (x : Int) (w : World) : Calls Try.prog 23 #[.int .i64 1, .int .i64 x] w fun e w' => e = .returned (.int .i64 (wrap64 (1 - x))) ∧ w = w' := by
  go_enter Try.func23, Try.ntmps23
  go_wp2_with (go_at_call 18; (with_reducible refine (rwrap_any _ _ _).mono ?_); rintro e _ ⟨rfl, rfl⟩)
  go_ret
  exact ⟨rfl, rfl⟩

theorem rnot_2 (x : Int) (w : World) : Calls Try.prog 23 #[.int .i64 2, .int .i64 x] w fun e w' => e = .returned (.int .i64 (wrapK 2 (bits .xor .i64 (-1) x))) ∧ w = w' := by
  go_enter Try.func23, Try.ntmps23
  go_wp2_with (go_at_call 18; (with_reducible refine (rwrap_any _ _ _).mono ?_); rintro e _ ⟨rfl, rfl⟩)
  go_ret
  exact ⟨rfl, rfl⟩

theorem rnot_3 (x : Int) (w : World) : Calls Try.prog 23 #[.int .i64 3, .int .i64 x] w fun e w' => e = .returned (.int .i64 (wrapK 3 (bits .xor .i64 (-1) x))) ∧ w = w' := by
  go_enter Try.func23, Try.ntmps23
  go_wp2_with (go_at_call 18; (with_reducible refine (rwrap_any _ _ _).mono ?_); rintro e _ ⟨rfl, rfl⟩)
  go_ret
  exact ⟨rfl, rfl⟩

theorem rnot_x (k x : Int) (w : World) (h1 : (k == 1) = false) (h2 : (k == 2) = false) (h3 : (k == 3) = false) : Calls Try.prog 23 #[.int .i64 k, .int .i64 x] w fun e w' => e = .returned (.int .i64 (0)) ∧ w = w' := by
  go_enter Try.func23, Try.ntmps23
  go_wp2_with (go_at_call 18; (with_reducible refine (rwrap_any _ _ _).mono ?_); rintro e _ ⟨rfl, rfl⟩)
  go_ret
  exact ⟨rfl, rfl⟩

theorem rnot_any (k x : Int) (w : World) : Calls Try.prog 23 #[.int .i64 k, .int .i64 x] w fun e w' => e = .returned (.int .i64 (notK k x)) ∧ w = w' := by
  by_cases h1 : k = 1
  · subst h1; exact rnot_1 x w
  · by_cases h2 : k = 2
    · subst h2; exact rnot_2 x w
    · by_cases h3 : k = 3
      · subst h3; exact rnot_3 x w
      · rw [show notK k x = 0 by simp [notK, h1, h2, h3]]
        exact rnot_x k x w (by simpa using h1) (by simpa using h2) (by simpa using h3)

/-- signs are twelve numbers in a row of their own. -/
theorem signs_any (w : World) : Calls Try.prog 17 #[] w fun e w' => e = .returned (.slice (some ⟨w.heap.size, 0, none⟩) 12 12) ∧ w.alloc (.cells #[.int .i64 7, .int .i64 8, .int .i64 9, .int .i64 10, .int .i64 11, .int .i64 12, .int .i64 13, .int .i64 14, .int .i64 16, .int .i64 17, .int .i64 28, .int .i64 29] 3) = w' := by
  go_enter Try.func17, Try.ntmps17
  go_wp2
  go_ret
  exact ⟨rfl, rfl⟩
end Go.Proofs.Ytelfgfoonfajiaa
