/- Chapter 7: Wrap, the program's and the document's: a value of a kind, as a plain function. Printed by genwrap.py. -/
import Derived.Test.YtgeeicgdgncmpaaDoorRows
import Derived.WalkKit
import Derived.WalkSpells
import Derived.WalkLawsBesides
import Derived.Lib.Hide
namespace Go.Proofs.YtgeeicgdgncmpaaDoor
open Go.RowKit
set_option linter.unusedVariables false

/-- A value of a kind. -/
def wrapK (k n : Int) : Int :=
  if k = 1 then (if n = 0 then 0 else 1) else if k = 2 then n % 256 else if k = 3 then n % 65536 else if k = 4 then (n + 32768) % 65536 - 32768 else if k = 5 then wrap32 n else if k = 6 then n else 0

theorem w_u16 (n : Int) : wrap64 (IntKind.u16.wrap n) = n % 65536 := by
  have h : IntKind.u16.wrap n = n % 65536 := by simp [IntKind.wrap, IntKind.bits, IntKind.signed]
  rw [h]; exact IntWalk.wrap64_in _ (by omega)
theorem w_i16 (n : Int) : wrap64 (IntKind.i16.wrap n) = (n + 32768) % 65536 - 32768 := by
  have h : IntKind.i16.wrap n = (n + 32768) % 65536 - 32768 := by
    simp [IntKind.wrap, IntKind.bits, IntKind.signed]
    try omega
  rw [h]; exact IntWalk.wrap64_in _ (by omega)

theorem wret {k : IntKind} {a b : Int} (h : a = b) : Ending.returned (.int k a) = .returned (.int k b) := by rw [h]



















set_option maxHeartbeats 400000 in
theorem rwrap_1z (n : Int) (w : World) (h : n = 0) :
    Calls Tryd.prog 15 #[.int .i64 1, .int .i64 n] w fun e w' => e = .returned (.int .i64 (0)) ∧ w = w' := by
  go_enter Tryd.func15, Tryd.ntmps15
  go_wp2
  go_ret
  exact ⟨wret (by rfl), rfl⟩


set_option maxHeartbeats 400000 in
theorem rwrap_1n (n : Int) (w : World) (h : (n == 0) = false) :
    Calls Tryd.prog 15 #[.int .i64 1, .int .i64 n] w fun e w' => e = .returned (.int .i64 (1)) ∧ w = w' := by
  go_enter Tryd.func15, Tryd.ntmps15
  go_wp2
  go_ret
  exact ⟨wret (by rfl), rfl⟩


set_option maxHeartbeats 400000 in
theorem rwrap_2 (n : Int) (w : World) :
    Calls Tryd.prog 15 #[.int .i64 2, .int .i64 n] w fun e w' => e = .returned (.int .i64 (n % 256)) ∧ w = w' := by
  go_enter Tryd.func15, Tryd.ntmps15
  go_wp2
  go_ret
  exact ⟨wret (by first | rfl | (simp; done) | (unfold wrap64; omega)), rfl⟩


set_option maxHeartbeats 400000 in
theorem rwrap_3 (n : Int) (w : World) :
    Calls Tryd.prog 15 #[.int .i64 3, .int .i64 n] w fun e w' => e = .returned (.int .i64 (n % 65536)) ∧ w = w' := by
  go_enter Tryd.func15, Tryd.ntmps15
  go_wp2
  go_ret
  exact ⟨wret (w_u16 n), rfl⟩


set_option maxHeartbeats 400000 in
theorem rwrap_4 (n : Int) (w : World) :
    Calls Tryd.prog 15 #[.int .i64 4, .int .i64 n] w fun e w' => e = .returned (.int .i64 ((n + 32768) % 65536 - 32768)) ∧ w = w' := by
  go_enter Tryd.func15, Tryd.ntmps15
  go_wp2
  go_ret
  exact ⟨wret (w_i16 n), rfl⟩


set_option maxHeartbeats 400000 in
theorem rwrap_5 (n : Int) (w : World) :
    Calls Tryd.prog 15 #[.int .i64 5, .int .i64 n] w fun e w' => e = .returned (.int .i64 (wrap32 n)) ∧ w = w' := by
  go_enter Tryd.func15, Tryd.ntmps15
  go_wp2
  go_ret
  exact ⟨wret (by first | rfl | exact IntWalk.wrap64_in _ (by unfold wrap32; omega)), rfl⟩


set_option maxHeartbeats 400000 in
theorem rwrap_6 (n : Int) (w : World) :
    Calls Tryd.prog 15 #[.int .i64 6, .int .i64 n] w fun e w' => e = .returned (.int .i64 (n)) ∧ w = w' := by
  go_enter Tryd.func15, Tryd.ntmps15
  go_wp2
  go_ret
  exact ⟨wret (by rfl), rfl⟩


set_option maxHeartbeats 400000 in
theorem rwrap_x (k n : Int) (w : World) (h1 : (k == 1) = false) (h2 : (k == 2) = false) (h3 : (k == 3) = false) (h4 : (k == 4) = false) (h5 : (k == 5) = false) (h6 : (k == 6) = false) :
    Calls Tryd.prog 15 #[.int .i64 k, .int .i64 n] w fun e w' => e = .returned (.int .i64 (0)) ∧ w = w' := by
  go_enter Tryd.func15, Tryd.ntmps15
  go_wp2
  go_ret
  exact ⟨wret (by rfl), rfl⟩


theorem rwrap_any (k n : Int) (w : World) :
    Calls Tryd.prog 15 #[.int .i64 k, .int .i64 n] w fun e w' => e = .returned (.int .i64 (wrapK k n)) ∧ w = w' := by
  by_cases h1 : k = 1
  · subst h1
    by_cases h : n = 0
    · rw [show wrapK 1 n = 0 by simp [wrapK, h]]; exact rwrap_1z n w h
    · rw [show wrapK 1 n = 1 by simp [wrapK, h]]; exact rwrap_1n n w (by simpa using h)
  · by_cases h2 : k = 2
    · subst h2; exact rwrap_2 n w
    · by_cases h3 : k = 3
      · subst h3; exact rwrap_3 n w
      · by_cases h4 : k = 4
        · subst h4; exact rwrap_4 n w
        · by_cases h5 : k = 5
          · subst h5; exact rwrap_5 n w
          · by_cases h6 : k = 6
            · subst h6; exact rwrap_6 n w
            · rw [show wrapK k n = 0 by simp [wrapK, h1, h2, h3, h4, h5, h6]]
              exact rwrap_x k n w (by simpa using h1) (by simpa using h2) (by simpa using h3) (by simpa using h4) (by simpa using h5) (by simpa using h6)

end Go.Proofs.YtgeeicgdgncmpaaDoor
