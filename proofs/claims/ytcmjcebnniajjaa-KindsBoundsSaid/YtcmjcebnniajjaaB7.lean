/- Chapter 7: the chapter's example, within, the walk of KindsWrap. -/
import Derived.Test.YtcmjcebnniajjaaA7
import Derived.Test.YtcmjcebnniajjaaFrame
import Derived.BigGuardPart
import Derived.WalkLawsBesides
import Derived.WalkSpells
namespace Go.Proofs.Ytcmjcebnniajjaa
open Go.RowKit
set_option linter.unusedVariables false

theorem xret {k : IntKind} {a b : Int} (h : a = b) : Ending.returned (.int k a) = .returned (.int k b) := by rw [h]

/-- within(a, n) is a modulo n, from 0 on. -/
theorem within_any (a n : Int) (hn : 0 < n) (hn' : n ≤ 4611686018427387904) (w : World) :
    Calls Try.prog 6 #[.int .i64 a, .int .i64 n] w fun e w' => e = .returned (.int .i64 (a % n)) ∧ w = w' := by
  have h1 := Int.emod_nonneg a (show n ≠ 0 by omega)
  have h2 := Int.emod_lt_of_pos a hn
  have h3 : a.tmod n = if 0 ≤ a ∨ a % n = 0 then a % n else a % n - n := by
    rw [Int.tmod_eq_emod]
    by_cases h : 0 ≤ a ∨ n ∣ a
    · rw [if_pos h, if_pos]
      · omega
      · rcases h with h | h
        · exact .inl h
        · exact .inr (Int.emod_eq_zero_of_dvd h)
    · rw [if_neg h, if_neg]
      · rw [Int.natAbs_of_nonneg (by omega)]
      · intro hh
        rcases hh with hh | hh
        · exact h (.inl hh)
        · exact h (.inr (Int.dvd_of_emod_eq_zero hh))
  have h4 : ¬ n = 0 := by omega
  by_cases hneg : a.tmod n < 0
  · have H : Hid (a.tmod n + n = a % n) := Lib.hid (by split at h3 <;> omega)
    have hb : -n < a.tmod n := by split at h3 <;> omega
    clear h3 h1 h2
    go_enter Try.func6, Try.ntmps6
    go_wp2
    go_ret
    exact ⟨xret H.out, rfl⟩
  · have H : Hid (a.tmod n = a % n) := Lib.hid (by split at h3 <;> omega)
    clear h3 h1 h2
    go_enter Try.func6, Try.ntmps6
    go_wp2
    go_ret
    exact ⟨xret H.out, rfl⟩

theorem value_9 (w : World) : Calls Try.prog 10 #[.int .i64 9] w fun e w' => e = .returned (.bool false) ∧ w = w' := by
  go_enter Try.func10, Try.ntmps10
  go_wp2
  go_ret
  exact ⟨rfl, rfl⟩

set_option maxHeartbeats 1000000 in
theorem size_ton (w : World) :
    Calls Try.prog 9 #[.agg #[.int .i64 9, .int .i64 0, .int .i64 0, .slice none 0 0]] w fun e w' => e = .returned (.int .i64 6) ∧ Below w.heap.size w w' := by
  go_enter Try.func9, Try.ntmps9
  go_wp2_with fail
  refine (value_9 _).mono ?_
  rintro e _ ⟨rfl, rfl⟩
  go_wp2_with fail
  refine (fields_ton _).mono ?_
  rintro e w1 ⟨⟨b, c, rfl⟩, hb⟩
  have HB := Lib.hid hb
  clear hb
  go_wp2
  go_ret
  refine ⟨rfl, ?_⟩
  exact ((Below.refl _ w).alloc (Nat.le_refl _) _).trans (HB.out.mono (by simp))

set_option maxHeartbeats 1000000 in
theorem known_any (w : World) : Calls Try.prog 5 #[] w fun e w' => e = .returned (.bool true) ∧ Below w.heap.size w w' := by
  have P := fun u => pwrap_any 4 40000 u
  rw [show wrapK 4 40000 = -25536 by decide] at P
  have HP := Lib.hid P
  clear P
  go_enter Try.func5, Try.ntmps5
  go_wp2_with fail
  refine (HP.out _).mono ?_
  rintro e _ ⟨rfl, rfl⟩
  go_wp2_with fail
  refine (size_ton _).mono ?_
  rintro e w1 ⟨rfl, hb⟩
  have HB := Lib.hid hb
  clear hb
  go_wp2
  go_ret
  exact ⟨rfl, HB.out⟩

theorem wrapK_idem (k x : Int) : wrapK k (wrapK k x) = wrapK k x := by
  unfold wrapK wrap32
  by_cases h1 : k = 1
  · by_cases hx : x = 0 <;> simp [h1, hx]
  by_cases h2 : k = 2
  · subst h2; simp
  by_cases h3 : k = 3
  · subst h3; simp
  by_cases h4 : k = 4
  · subst h4; simp; try omega
  by_cases h5 : k = 5
  · subst h5; simp; try omega
  by_cases h6 : k = 6
  · subst h6; simp
  · simp [h1, h2, h3, h4, h5, h6]

set_option maxHeartbeats 800000 in
theorem kindsWrap_walk (k n : Int) (w : World) (w0 : I64 k) (w1 : I64 n) :
    Calls Try.prog 3 #[.int .i64 k, .int .i64 n] w fun e w' => e = .returned (.bool true) ∧ Below w.heap.size w w' := by
  have HW := Lib.hid (fun u => within_any k 6 (by decide) (by decide) u)
  have hk1 : 0 ≤ k % 6 := by omega
  have hk2 : k % 6 < 6 := by omega
  generalize k % 6 = j at *
  have a1 := fun u => pwrap_any (1 + j) n u
  have a2 := fun u => pwrap_any k n u
  have a3 := fun u => rwrap_any k n u
  have a4 := fun u => rwrap_any (1 + j) n u
  have a5 := fun u => pwrap_any (1 + j) (wrapK (1 + j) n) u
  rw [wrapK_idem] at a5
  generalize wrapK (1 + j) n = x at *
  generalize wrapK k n = y at *
  have A1 := Lib.hid a1
  have A2 := Lib.hid a2
  have A3 := Lib.hid a3
  have A4 := Lib.hid a4
  have A5 := Lib.hid a5
  clear a1 a2 a3 a4 a5 w0 w1
  go_enter Try.func3, Try.ntmps3
  go_wp2_with fail
  refine (known_any _).mono ?_
  rintro e u1 ⟨rfl, hb⟩
  have HB := Lib.hid hb
  clear hb
  go_wp2_with fail
  refine (HW.out _).mono ?_
  rintro e _ ⟨rfl, rfl⟩
  go_wp2_with (first
    | (go_at_call 7; (with_reducible refine (A1.out _).mono ?_); rintro e _ ⟨rfl, rfl⟩)
    | (go_at_call 7; (with_reducible refine (A2.out _).mono ?_); rintro e _ ⟨rfl, rfl⟩)
    | (go_at_call 7; (with_reducible refine (A5.out _).mono ?_); rintro e _ ⟨rfl, rfl⟩)
    | (go_at_call 8; (with_reducible refine (A3.out _).mono ?_); rintro e _ ⟨rfl, rfl⟩)
    | (go_at_call 8; (with_reducible refine (A4.out _).mono ?_); rintro e _ ⟨rfl, rfl⟩))
  go_ret
  exact ⟨rfl, HB.out⟩
end Go.Proofs.Ytcmjcebnniajjaa
