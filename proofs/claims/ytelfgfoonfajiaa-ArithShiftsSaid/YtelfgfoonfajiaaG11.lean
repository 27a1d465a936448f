/- Chapter 11: the walks of ArithMixed, ArithTimes, ArithTwos. -/
import Derived.Test.YtelfgfoonfajiaaE11
namespace Go.Proofs.Ytelfgfoonfajiaa
open Go.RowKit
set_option linter.unusedVariables false

/-- The signs' row: at each place a sign. -/
theorem sign_at (j : Nat) (hj : j < 12) : ∃ s : Int, (∀ u : World, (u.alloc (.cells #[.int .i64 7, .int .i64 8, .int .i64 9, .int .i64 10, .int .i64 11, .int .i64 12, .int .i64 13, .int .i64 14, .int .i64 16, .int .i64 17, .int .i64 28, .int .i64 29] 3)).cell? ⟨u.heap.size, j, none⟩ = some (.int .i64 s)) ∧
    signK s = true ∧ (s = 28 ∨ s = 29 ∨ (s ≠ 28 ∧ s ≠ 29)) := by
  rcases (show j = 0 ∨ j = 1 ∨ j = 2 ∨ j = 3 ∨ j = 4 ∨ j = 5 ∨ j = 6 ∨ j = 7 ∨ j = 8 ∨ j = 9 ∨ j = 10 ∨ j = 11 by omega) with rfl | rfl | rfl | rfl | rfl | rfl | rfl | rfl | rfl | rfl | rfl | rfl
  · exact ⟨7, fun u => by simp [go_sem], rfl, by decide⟩
  · exact ⟨8, fun u => by simp [go_sem], rfl, by decide⟩
  · exact ⟨9, fun u => by simp [go_sem], rfl, by decide⟩
  · exact ⟨10, fun u => by simp [go_sem], rfl, by decide⟩
  · exact ⟨11, fun u => by simp [go_sem], rfl, by decide⟩
  · exact ⟨12, fun u => by simp [go_sem], rfl, by decide⟩
  · exact ⟨13, fun u => by simp [go_sem], rfl, by decide⟩
  · exact ⟨14, fun u => by simp [go_sem], rfl, by decide⟩
  · exact ⟨16, fun u => by simp [go_sem], rfl, by decide⟩
  · exact ⟨17, fun u => by simp [go_sem], rfl, by decide⟩
  · exact ⟨28, fun u => by simp [go_sem], rfl, by decide⟩
  · exact ⟨29, fun u => by simp [go_sem], rfl, by decide⟩

theorem fits_unlike (s a b : Int) (hab : ¬ a = b) (h28 : s ≠ 28) (h29 : s ≠ 29) (hs : signK s = true) : kindE s a b = 19 ∧ kindM s a b = 0 := by
  have hf : fitsK s a b = false := by
    simp only [signK, decide_eq_true_eq] at hs
    rcases hs with h | h | h | h | h | h | h | h | h | h | h | h <;> first | (subst h; simp [fitsK, hab]; done) | exact absurd h h28 | exact absurd h h29
  simp [kindE, kindM, hs, hf]

set_option maxHeartbeats 2000000 in
theorem arithMixed_walk (s a b : Int) (w : World) (w0 : I64 s) (w1 : I64 a) (w2 : I64 b) :
    Calls Try.prog 9 #[.int .i64 s, .int .i64 a, .int .i64 b] w fun e w' => e = .returned (.bool true) ∧ Below w.heap.size w w' := by
  have HA := fun u => within_any a 6 (by decide) (by decide) u
  have HB0 := fun u => within_any b 6 (by decide) (by decide) u
  have HS := fun u => within_any s 12 (by decide) (by decide) u
  have ha1 : 0 ≤ a % 6 := by omega
  have ha2 : a % 6 < 6 := by omega
  have hb1 : 0 ≤ b % 6 := by omega
  have hb2 : b % 6 < 6 := by omega
  obtain ⟨j, hj⟩ : ∃ j : Nat, s % 12 = j := ⟨(s % 12).toNat, by omega⟩
  have hj12 : j < 12 := by omega
  rw [hj] at HS
  clear hj w0 w1 w2
  generalize a % 6 = p at *
  generalize b % 6 = q at *
  have HA := Lib.hid HA
  have HB0 := Lib.hid HB0
  have HS := Lib.hid HS
  obtain ⟨σ, hσ, hsg, h3⟩ := sign_at j hj12
  have hjl : (0 : Int) ≤ (j : Int) := by omega
  have hju : (j : Int) < 12 := by omega
  have HP := Lib.hid (fun u => pkind_any σ (1 + p) (1 + q) u)
  have hU := fits_unlike σ (1 + p) (1 + q)
  have HU := Lib.hid hU
  have HSG := Lib.hid hsg
  clear hU hsg
  by_cases hpq : 1 + p = 1 + q
  · have e : p = q := by omega
    subst e
    clear hpq
    go_enter Try.func9, Try.ntmps9
    go_wp2_with (first
      | (go_at_call 13; (with_reducible refine (known_any _).mono ?_); rintro e u1 ⟨rfl, hb⟩; have HB := Lib.hid hb; clear hb)
      | (go_at_call 16; (with_reducible refine (HA.out _).mono ?_); rintro e _ ⟨rfl, rfl⟩)
      | (go_at_call 16; (with_reducible refine (HB0.out _).mono ?_); rintro e _ ⟨rfl, rfl⟩))
    go_ret
    exact ⟨rfl, HB.out⟩
  · have hpq' : (1 + p == 1 + q) = false := by simpa using hpq
    by_cases hns : σ ≠ 28 ∧ σ ≠ 29
    · obtain ⟨e1, e2⟩ := HU.out hpq hns.1 hns.2 HSG.out
      have h28 : (σ == 28) = false := by simpa using hns.1
      have h29 : (σ == 29) = false := by simpa using hns.2
      rw [e1, e2] at HP
      clear e1 e2 hns h3 HU hpq
      go_enter Try.func9, Try.ntmps9
      go_wp2_with (first
        | (go_at_call 13; (with_reducible refine (known_any _).mono ?_); rintro e u1 ⟨rfl, hb⟩; have HB := Lib.hid hb; have hz1 : w.heap.size ≤ u1.heap.size := hb.size; clear hb)
        | (go_at_call 16; (with_reducible refine (HA.out _).mono ?_); rintro e _ ⟨rfl, rfl⟩)
        | (go_at_call 16; (with_reducible refine (HB0.out _).mono ?_); rintro e _ ⟨rfl, rfl⟩)
        | (go_at_call 16; (with_reducible refine (HS.out _).mono ?_); rintro e _ ⟨rfl, rfl⟩)
        | (go_at_call 17; (with_reducible refine (signs_any _).mono ?_); rintro e _ ⟨rfl, rfl⟩)
        | (go_at_call 14; (with_reducible refine (HP.out _).mono ?_); rintro e u3 ⟨rfl, hb3⟩; have HB3 := Lib.hid ((HB.out.alloc hz1 _).trans (hb3.mono (by simp; omega))); clear hb3))
      go_ret
      exact ⟨rfl, HB3.out⟩
    · have hsh : σ = 28 ∨ σ = 29 := by omega
      by_cases hf : (p = 1 ∨ p = 2) ∧ q = 4
      · obtain ⟨hp, hq⟩ := hf
        have e1 : kindE σ (1 + p) (1 + q) = 0 := by subst hq; rcases hsh with rfl | rfl <;> rcases hp with rfl | rfl <;> decide
        have e2 : kindM σ (1 + p) (1 + q) = 1 + p := by subst hq; rcases hsh with rfl | rfl <;> rcases hp with rfl | rfl <;> decide
        rw [e1, e2] at HP
        have q1 : (1 + q == 5) = true := by simp; omega
        have hp' : (1 + p == 2) = true ∨ ((1 + p == 2) = false ∧ (1 + p == 3) = true) := by
          rcases hp with h | h
          · left; simp; omega
          · right; constructor <;> (simp; omega)
        clear e1 e2 hns h3 HU hpq HSG hp hq
        rcases hsh with rfl | rfl <;> rcases hp' with hp1 | ⟨hp1, hp2⟩
        all_goals
          go_enter Try.func9, Try.ntmps9
          go_wp2_with (first
            | (go_at_call 13; (with_reducible refine (known_any _).mono ?_); rintro e u1 ⟨rfl, hb⟩; have HB := Lib.hid hb; have hz1 : w.heap.size ≤ u1.heap.size := hb.size; clear hb)
            | (go_at_call 16; (with_reducible refine (HA.out _).mono ?_); rintro e _ ⟨rfl, rfl⟩)
            | (go_at_call 16; (with_reducible refine (HB0.out _).mono ?_); rintro e _ ⟨rfl, rfl⟩)
            | (go_at_call 16; (with_reducible refine (HS.out _).mono ?_); rintro e _ ⟨rfl, rfl⟩)
            | (go_at_call 17; (with_reducible refine (signs_any _).mono ?_); rintro e _ ⟨rfl, rfl⟩)
            | (go_at_call 14; (with_reducible refine (HP.out _).mono ?_); rintro e u3 ⟨rfl, hb3⟩; have HB3 := Lib.hid ((HB.out.alloc hz1 _).trans (hb3.mono (by simp; omega))); clear hb3))
          go_ret
          exact ⟨rfl, HB3.out⟩
      · have hff : fitsK σ (1 + p) (1 + q) = false := by
          rcases hsh with rfl | rfl <;> (simp only [fitsK]; simp; omega)
        have e1 : kindE σ (1 + p) (1 + q) = 19 := by simp [kindE, HSG.out, hff]
        have e2 : kindM σ (1 + p) (1 + q) = 0 := by simp [kindM, HSG.out, hff]
        rw [e1, e2] at HP
        have hc : ((1 + p == 2) = false ∧ (1 + p == 3) = false) ∨ (1 + q == 5) = false := by
          by_cases h : q = 4
          · left; constructor <;> (simp; omega)
          · right; simp; omega
        clear e1 e2 hns h3 HU hpq HSG hff hf
        rcases hsh with rfl | rfl <;> rcases hc with ⟨hc1, hc2⟩ | hc1
        all_goals
          go_enter Try.func9, Try.ntmps9
          go_wp2_with (first
            | (go_at_call 13; (with_reducible refine (known_any _).mono ?_); rintro e u1 ⟨rfl, hb⟩; have HB := Lib.hid hb; have hz1 : w.heap.size ≤ u1.heap.size := hb.size; clear hb)
            | (go_at_call 16; (with_reducible refine (HA.out _).mono ?_); rintro e _ ⟨rfl, rfl⟩)
            | (go_at_call 16; (with_reducible refine (HB0.out _).mono ?_); rintro e _ ⟨rfl, rfl⟩)
            | (go_at_call 16; (with_reducible refine (HS.out _).mono ?_); rintro e _ ⟨rfl, rfl⟩)
            | (go_at_call 17; (with_reducible refine (signs_any _).mono ?_); rintro e _ ⟨rfl, rfl⟩)
            | (go_at_call 14; (with_reducible refine (HP.out _).mono ?_); rintro e u3 ⟨rfl, hb3⟩; have HB3 := Lib.hid ((HB.out.alloc hz1 _).trans (hb3.mono (by simp; omega))); clear hb3))
          all_goals (go_ret; exact ⟨rfl, HB3.out⟩)
end Go.Proofs.Ytelfgfoonfajiaa
