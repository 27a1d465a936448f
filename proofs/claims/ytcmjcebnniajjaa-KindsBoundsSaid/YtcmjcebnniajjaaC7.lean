/- Chapter 7: the walk of KindsBounds. Printed by genc7.py. -/
import Derived.Test.YtcmjcebnniajjaaB7
import Derived.BigGuardPart
namespace Go.Proofs.Ytcmjcebnniajjaa
open Go.RowKit
set_option linter.unusedVariables false

theorem pw_to (k x v : Int) (w : World) (h : wrapK k x = v) : Calls Try.prog 7 #[.int .i64 k, .int .i64 x] w fun e w' => e = .returned (.int .i64 v) ∧ w = w' := by
  rw [← h]; exact pwrap_any k x w
theorem pw_6 (x : Int) (w : World) : Calls Try.prog 7 #[.int .i64 6, .int .i64 x] w fun e w' => e = .returned (.int .i64 x) ∧ w = w' :=
  pw_to 6 x x w (by simp [wrapK])

set_option maxHeartbeats 1600000 in
theorem bounds_1 (k n q : Int) (w : World) (hq0 : 0 ≤ q) (hq1 : q < 100)
    (h5 : ∀ u, Calls Try.prog 6 #[.int .i64 k, .int .i64 5] u fun e w' => e = .returned (.int .i64 0) ∧ u = w')
    (h100 : ∀ u, Calls Try.prog 6 #[.int .i64 n, .int .i64 100] u fun e w' => e = .returned (.int .i64 q) ∧ u = w') :
    Calls Try.prog 4 #[.int .i64 k, .int .i64 n] w fun e w' => e = .returned (.bool true) ∧ Below w.heap.size w w' := by
  have H5 := Lib.hid h5
  have H100 := Lib.hid h100
  clear h5 h100
  go_enter Try.func4, Try.ntmps4
  go_wp2_with fail
  refine (known_any _).mono ?_
  rintro e u1 ⟨rfl, hb⟩
  have HB := Lib.hid hb
  clear hb
  go_wp2_with fail
  refine (H5.out _).mono ?_
  rintro e _ ⟨rfl, rfl⟩
  go_wp2_with fail
  refine (H100.out _).mono ?_
  rintro e _ ⟨rfl, rfl⟩
  go_wp2_with (first
    | (go_at_call 7; (with_reducible refine (pw_6 _ _).mono ?_); rintro e _ ⟨rfl, rfl⟩)
    | (go_at_call 7; refine (pw_to 1 _ (0) _ ?hw).mono ?_; (case hw => (first | decide | (simp [wrapK]; done) | (simp [wrapK]; omega) | (simp [wrapK]; unfold wrap32; omega))); rintro e _ ⟨rfl, rfl⟩)
    | (go_at_call 7; refine (pw_to 1 _ 1 _ ?hw).mono ?_; (case hw => (first | decide | (simp [wrapK]; done) | (simp [wrapK]; omega) | (simp [wrapK]; unfold wrap32; omega))); rintro e _ ⟨rfl, rfl⟩))
  go_ret
  exact ⟨rfl, (HB.out.alloc HB.out.size _).alloc (by have := HB.out.size; simp; omega) _⟩

set_option maxHeartbeats 1600000 in
theorem bounds_2 (k n q : Int) (w : World) (hq0 : 0 ≤ q) (hq1 : q < 100)
    (h5 : ∀ u, Calls Try.prog 6 #[.int .i64 k, .int .i64 5] u fun e w' => e = .returned (.int .i64 1) ∧ u = w')
    (h100 : ∀ u, Calls Try.prog 6 #[.int .i64 n, .int .i64 100] u fun e w' => e = .returned (.int .i64 q) ∧ u = w') :
    Calls Try.prog 4 #[.int .i64 k, .int .i64 n] w fun e w' => e = .returned (.bool true) ∧ Below w.heap.size w w' := by
  have H5 := Lib.hid h5
  have H100 := Lib.hid h100
  clear h5 h100
  go_enter Try.func4, Try.ntmps4
  go_wp2_with fail
  refine (known_any _).mono ?_
  rintro e u1 ⟨rfl, hb⟩
  have HB := Lib.hid hb
  clear hb
  go_wp2_with fail
  refine (H5.out _).mono ?_
  rintro e _ ⟨rfl, rfl⟩
  go_wp2_with fail
  refine (H100.out _).mono ?_
  rintro e _ ⟨rfl, rfl⟩
  go_wp2_with (first
    | (go_at_call 7; (with_reducible refine (pw_6 _ _).mono ?_); rintro e _ ⟨rfl, rfl⟩)
    | (go_at_call 7; refine (pw_to 2 _ (0) _ ?hw).mono ?_; (case hw => (first | decide | (simp [wrapK]; done) | (simp [wrapK]; omega) | (simp [wrapK]; unfold wrap32; omega))); rintro e _ ⟨rfl, rfl⟩)
    | (go_at_call 7; refine (pw_to 2 _ 255 _ ?hw).mono ?_; (case hw => (first | decide | (simp [wrapK]; done) | (simp [wrapK]; omega) | (simp [wrapK]; unfold wrap32; omega))); rintro e _ ⟨rfl, rfl⟩))
  go_ret
  exact ⟨rfl, (HB.out.alloc HB.out.size _).alloc (by have := HB.out.size; simp; omega) _⟩

set_option maxHeartbeats 1600000 in
theorem bounds_3 (k n q : Int) (w : World) (hq0 : 0 ≤ q) (hq1 : q < 100)
    (h5 : ∀ u, Calls Try.prog 6 #[.int .i64 k, .int .i64 5] u fun e w' => e = .returned (.int .i64 2) ∧ u = w')
    (h100 : ∀ u, Calls Try.prog 6 #[.int .i64 n, .int .i64 100] u fun e w' => e = .returned (.int .i64 q) ∧ u = w') :
    Calls Try.prog 4 #[.int .i64 k, .int .i64 n] w fun e w' => e = .returned (.bool true) ∧ Below w.heap.size w w' := by
  have H5 := Lib.hid h5
  have H100 := Lib.hid h100
  clear h5 h100
  go_enter Try.func4, Try.ntmps4
  go_wp2_with fail
  refine (known_any _).mono ?_
  rintro e u1 ⟨rfl, hb⟩
  have HB := Lib.hid hb
  clear hb
  go_wp2_with fail
  refine (H5.out _).mono ?_
  rintro e _ ⟨rfl, rfl⟩
  go_wp2_with fail
  refine (H100.out _).mono ?_
  rintro e _ ⟨rfl, rfl⟩
  go_wp2_with (first
    | (go_at_call 7; (with_reducible refine (pw_6 _ _).mono ?_); rintro e _ ⟨rfl, rfl⟩)
    | (go_at_call 7; refine (pw_to 3 _ (0) _ ?hw).mono ?_; (case hw => (first | decide | (simp [wrapK]; done) | (simp [wrapK]; omega) | (simp [wrapK]; unfold wrap32; omega))); rintro e _ ⟨rfl, rfl⟩)
    | (go_at_call 7; refine (pw_to 3 _ 65535 _ ?hw).mono ?_; (case hw => (first | decide | (simp [wrapK]; done) | (simp [wrapK]; omega) | (simp [wrapK]; unfold wrap32; omega))); rintro e _ ⟨rfl, rfl⟩))
  go_ret
  exact ⟨rfl, (HB.out.alloc HB.out.size _).alloc (by have := HB.out.size; simp; omega) _⟩

set_option maxHeartbeats 1600000 in
theorem bounds_4 (k n q : Int) (w : World) (hq0 : 0 ≤ q) (hq1 : q < 100)
    (h5 : ∀ u, Calls Try.prog 6 #[.int .i64 k, .int .i64 5] u fun e w' => e = .returned (.int .i64 3) ∧ u = w')
    (h100 : ∀ u, Calls Try.prog 6 #[.int .i64 n, .int .i64 100] u fun e w' => e = .returned (.int .i64 q) ∧ u = w') :
    Calls Try.prog 4 #[.int .i64 k, .int .i64 n] w fun e w' => e = .returned (.bool true) ∧ Below w.heap.size w w' := by
  have H5 := Lib.hid h5
  have H100 := Lib.hid h100
  clear h5 h100
  go_enter Try.func4, Try.ntmps4
  go_wp2_with fail
  refine (known_any _).mono ?_
  rintro e u1 ⟨rfl, hb⟩
  have HB := Lib.hid hb
  clear hb
  go_wp2_with fail
  refine (H5.out _).mono ?_
  rintro e _ ⟨rfl, rfl⟩
  go_wp2_with fail
  refine (H100.out _).mono ?_
  rintro e _ ⟨rfl, rfl⟩
  go_wp2_with (first
    | (go_at_call 7; (with_reducible refine (pw_6 _ _).mono ?_); rintro e _ ⟨rfl, rfl⟩)
    | (go_at_call 7; refine (pw_to 4 _ (-32768) _ ?hw).mono ?_; (case hw => (first | decide | (simp [wrapK]; done) | (simp [wrapK]; omega) | (simp [wrapK]; unfold wrap32; omega))); rintro e _ ⟨rfl, rfl⟩)
    | (go_at_call 7; refine (pw_to 4 _ 32767 _ ?hw).mono ?_; (case hw => (first | decide | (simp [wrapK]; done) | (simp [wrapK]; omega) | (simp [wrapK]; unfold wrap32; omega))); rintro e _ ⟨rfl, rfl⟩))
  go_ret
  exact ⟨rfl, (HB.out.alloc HB.out.size _).alloc (by have := HB.out.size; simp; omega) _⟩

set_option maxHeartbeats 1600000 in
theorem bounds_5 (k n q : Int) (w : World) (hq0 : 0 ≤ q) (hq1 : q < 100)
    (h5 : ∀ u, Calls Try.prog 6 #[.int .i64 k, .int .i64 5] u fun e w' => e = .returned (.int .i64 4) ∧ u = w')
    (h100 : ∀ u, Calls Try.prog 6 #[.int .i64 n, .int .i64 100] u fun e w' => e = .returned (.int .i64 q) ∧ u = w') :
    Calls Try.prog 4 #[.int .i64 k, .int .i64 n] w fun e w' => e = .returned (.bool true) ∧ Below w.heap.size w w' := by
  have H5 := Lib.hid h5
  have H100 := Lib.hid h100
  clear h5 h100
  go_enter Try.func4, Try.ntmps4
  go_wp2_with fail
  refine (known_any _).mono ?_
  rintro e u1 ⟨rfl, hb⟩
  have HB := Lib.hid hb
  clear hb
  go_wp2_with fail
  refine (H5.out _).mono ?_
  rintro e _ ⟨rfl, rfl⟩
  go_wp2_with fail
  refine (H100.out _).mono ?_
  rintro e _ ⟨rfl, rfl⟩
  go_wp2_with (first
    | (go_at_call 7; (with_reducible refine (pw_6 _ _).mono ?_); rintro e _ ⟨rfl, rfl⟩)
    | (go_at_call 7; refine (pw_to 5 _ (-2147483648) _ ?hw).mono ?_; (case hw => (first | decide | (simp [wrapK]; done) | (simp [wrapK]; omega) | (simp [wrapK]; unfold wrap32; omega))); rintro e _ ⟨rfl, rfl⟩)
    | (go_at_call 7; refine (pw_to 5 _ 2147483647 _ ?hw).mono ?_; (case hw => (first | decide | (simp [wrapK]; done) | (simp [wrapK]; omega) | (simp [wrapK]; unfold wrap32; omega))); rintro e _ ⟨rfl, rfl⟩))
  go_ret
  exact ⟨rfl, (HB.out.alloc HB.out.size _).alloc (by have := HB.out.size; simp; omega) _⟩

theorem kindsBounds_walk (k n : Int) (w : World) (w0 : I64 k) (w1 : I64 n) :
    Calls Try.prog 4 #[.int .i64 k, .int .i64 n] w fun e w' => e = .returned (.bool true) ∧ Below w.heap.size w w' := by
  have H5 := fun u => within_any k 5 (by decide) (by decide) u
  have H100 := fun u => within_any n 100 (by decide) (by decide) u
  rcases (show k % 5 = 0 ∨ k % 5 = 1 ∨ k % 5 = 2 ∨ k % 5 = 3 ∨ k % 5 = 4 by omega) with h | h | h | h | h <;> rw [h] at H5
  · exact bounds_1 k n _ w (by omega) (by omega) H5 H100
  · exact bounds_2 k n _ w (by omega) (by omega) H5 H100
  · exact bounds_3 k n _ w (by omega) (by omega) H5 H100
  · exact bounds_4 k n _ w (by omega) (by omega) H5 H100
  · exact bounds_5 k n _ w (by omega) (by omega) H5 H100
end Go.Proofs.Ytcmjcebnniajjaa
