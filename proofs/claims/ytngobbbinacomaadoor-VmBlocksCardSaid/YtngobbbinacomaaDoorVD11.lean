/- Chapter 11: Not and Conv, the program's and the document's; the laws' own helpers. -/
import Derived.Test.YtngobbbinacomaaDoorVC11
namespace Go.Proofs.YtngobbbinacomaaDoor.c11
open Go.Proofs.YtngobbbinacomaaDoor
open Go.RowKit
set_option linter.unusedVariables false

theorem pconv_any (a b x : Int) (w : World) : Calls Tryd.prog 107 #[.int .i64 a, .int .i64 b, .int .i64 x] w fun e w' => e = .returned (.int .i64 (wrapK b x)) ∧ w = w' := by
  go_enter Tryd.func107, Tryd.ntmps107
  go_wp2_with fail
  refine (pwrap_any _ _ _).mono ?_
  rintro e _ ⟨rfl, rfl⟩
  go_wp2
  go_ret
  exact ⟨rfl, rfl⟩

theorem rconv_any (a b x : Int) (w : World) : Calls Tryd.prog 78 #[.int .i64 a, .int .i64 b, .int .i64 x] w fun e w' => e = .returned (.int .i64 (wrapK b x)) ∧ w = w' := by
  go_enter Tryd.func78, Tryd.ntmps78
  go_wp2_with fail
  refine (rwrap_any _ _ _).mono ?_
  rintro e _ ⟨rfl, rfl⟩
  go_wp2
  go_ret
  exact ⟨rfl, rfl⟩

/-- A turned value. -/
def notK (k x : Int) : Int := if k = 1 then wrap64 (1 - x) else if k = 2 ∨ k = 3 then wrapK k (bits .xor .i64 (-1) x) else 0

theorem pnot_1 (x : Int) (w : World) : Calls Tryd.prog 106 #[.int .i64 1, .int .i64 x] w fun e w' => e = .returned (.int .i64 (wrap64 (1 - x))) ∧ w = w' := by
  go_enter Tryd.func106, Tryd.ntmps106
  go_wp2_with (go_at_call 88; (with_reducible refine (pwrap_any _ _ _).mono ?_); rintro e _ ⟨rfl, rfl⟩)
  go_ret
  exact ⟨rfl, rfl⟩

theorem pnot_2 (x : Int) (w : World) : Calls Tryd.prog 106 #[.int .i64 2, .int .i64 x] w fun e w' => e = .returned (.int .i64 (wrapK 2 (bits .xor .i64 (-1) x))) ∧ w = w' := by
  go_enter Tryd.func106, Tryd.ntmps106
  go_wp2_with (go_at_call 88; (with_reducible refine (pwrap_any _ _ _).mono ?_); rintro e _ ⟨rfl, rfl⟩)
  go_ret
  exact ⟨rfl, rfl⟩

theorem pnot_3 (x : Int) (w : World) : Calls Tryd.prog 106 #[.int .i64 3, .int .i64 x] w fun e w' => e = .returned (.int .i64 (wrapK 3 (bits .xor .i64 (-1) x))) ∧ w = w' := by
  go_enter Tryd.func106, Tryd.ntmps106
  go_wp2_with (go_at_call 88; (with_reducible refine (pwrap_any _ _ _).mono ?_); rintro e _ ⟨rfl, rfl⟩)
  go_ret
  exact ⟨rfl, rfl⟩

theorem pnot_x (k x : Int) (w : World) (h1 : (k == 1) = false) (h2 : (k == 2) = false) (h3 : (k == 3) = false) : Calls Tryd.prog 106 #[.int .i64 k, .int .i64 x] w fun e w' => e = .returned (.int .i64 (0)) ∧ w = w' := by
  go_enter Tryd.func106, Tryd.ntmps106
  go_wp2_with (go_at_call 88; (with_reducible refine (pwrap_any _ _ _).mono ?_); rintro e _ ⟨rfl, rfl⟩)
  go_ret
  exact ⟨rfl, rfl⟩

theorem pnot_any (k x : Int) (w : World) : Calls Tryd.prog 106 #[.int .i64 k, .int .i64 x] w fun e w' => e = .returned (.int .i64 (notK k x)) ∧ w = w' := by
  by_cases h1 : k = 1
  · subst h1; exact pnot_1 x w
  · by_cases h2 : k = 2
    · subst h2; exact pnot_2 x w
    · by_cases h3 : k = 3
      · subst h3; exact pnot_3 x w
      · rw [show notK k x = 0 by simp [notK, h1, h2, h3]]
        exact pnot_x k x w (by simpa using h1) (by simpa using h2) (by simpa using h3)

theorem rnot_1 (x : Int) (w : World) : Calls Tryd.prog 77 #[.int .i64 1, .int .i64 x] w fun e w' => e = .returned (.int .i64 (wrap64 (1 - x))) ∧ w = w' := by
  go_enter Tryd.func77, Tryd.ntmps77
  go_wp2_with (go_at_call 26; (with_reducible refine (rwrap_any _ _ _).mono ?_); rintro e _ ⟨rfl, rfl⟩)
  go_ret
  exact ⟨rfl, rfl⟩

theorem rnot_2 (x : Int) (w : World) : Calls Tryd.prog 77 #[.int .i64 2, .int .i64 x] w fun e w' => e = .returned (.int .i64 (wrapK 2 (bits .xor .i64 (-1) x))) ∧ w = w' := by
  go_enter Tryd.func77, Tryd.ntmps77
  go_wp2_with (go_at_call 26; (with_reducible refine (rwrap_any _ _ _).mono ?_); rintro e _ ⟨rfl, rfl⟩)
  go_ret
  exact ⟨rfl, rfl⟩

theorem rnot_3 (x : Int) (w : World) : Calls Tryd.prog 77 #[.int .i64 3, .int .i64 x] w fun e w' => e = .returned (.int .i64 (wrapK 3 (bits .xor .i64 (-1) x))) ∧ w = w' := by
  go_enter Tryd.func77, Tryd.ntmps77
  go_wp2_with (go_at_call 26; (with_reducible refine (rwrap_any _ _ _).mono ?_); rintro e _ ⟨rfl, rfl⟩)
  go_ret
  exact ⟨rfl, rfl⟩

theorem rnot_x (k x : Int) (w : World) (h1 : (k == 1) = false) (h2 : (k == 2) = false) (h3 : (k == 3) = false) : Calls Tryd.prog 77 #[.int .i64 k, .int .i64 x] w fun e w' => e = .returned (.int .i64 (0)) ∧ w = w' := by
  go_enter Tryd.func77, Tryd.ntmps77
  go_wp2_with (go_at_call 26; (with_reducible refine (rwrap_any _ _ _).mono ?_); rintro e _ ⟨rfl, rfl⟩)
  go_ret
  exact ⟨rfl, rfl⟩

theorem rnot_any (k x : Int) (w : World) : Calls Tryd.prog 77 #[.int .i64 k, .int .i64 x] w fun e w' => e = .returned (.int .i64 (notK k x)) ∧ w = w' := by
  by_cases h1 : k = 1
  · subst h1; exact rnot_1 x w
  · by_cases h2 : k = 2
    · subst h2; exact rnot_2 x w
    · by_cases h3 : k = 3
      · subst h3; exact rnot_3 x w
      · rw [show notK k x = 0 by simp [notK, h1, h2, h3]]
        exact rnot_x k x w (by simpa using h1) (by simpa using h2) (by simpa using h3)

end Go.Proofs.YtngobbbinacomaaDoor.c11
