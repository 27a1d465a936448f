/- Chapter 10: the chapter's example; InstrNames, InstrPlaces. -/
import Derived.Test.YtpojffgppejhcaaJ10
import Derived.BigGuardPart
namespace Go.Proofs.Ytpojffgppejhcaa
open Go.RowKit
set_option linter.unusedVariables false
set_option linter.unusedSimpArgs false

/-- within(a, n) is a modulo n, from 0 on. -/
theorem within_any (a n : Int) (hn : 0 < n) (hn' : n ≤ 4611686018427387904) (w : World) :
    Calls Try.prog 16 #[.int .i64 a, .int .i64 n] w fun e w' => e = .returned (.int .i64 (a % n)) ∧ w = w' := by
  have h1 := Int.emod_nonneg a (show n ≠ 0 by omega)
  have h2 := Int.emod_lt_of_pos a hn
  have h3 : a.tmod n = if 0 ≤ a ∨ a % n = 0 then a % n else a % n - n := by
    rw [Int.tmod_eq_emod]
    by_cases h : 0 ≤ a ∨ n ∣ a
    · rw [if_pos h, if_pos]
      · omega
      · rcases h with h | h
        · exact .inl h
        · exact .inr (Int.emod_eq_zero_of_dvd h)
    · rw [if_neg h, if_neg]
      · rw [Int.natAbs_of_nonneg (by omega)]
      · intro hh
        rcases hh with hh | hh
        · exact h (.inl hh)
        · exact h (.inr (Int.dvd_of_emod_eq_zero hh))
  have h4 : ¬ n = 0 := by omega
  by_cases hneg : a.tmod n < 0
  · have H : Hid (a.tmod n + n = a % n) := Lib.hid (by split at h3 <;> omega)
    have hb : -n < a.tmod n := by split at h3 <;> omega
    clear h3 h1 h2
    go_enter Try.func16, Try.ntmps16
    go_wp2
    go_ret
    exact ⟨bret H.out, rfl⟩
  · have H : Hid (a.tmod n = a % n) := Lib.hid (by split at h3 <;> omega)
    clear h3 h1 h2
    go_enter Try.func16, Try.ntmps16
    go_wp2
    go_ret
    exact ⟨bret H.out, rfl⟩

theorem Came.below {w u : World} {A : Option Addr} {len cap : Nat} {V : Nat → Value} (c : Came w A len cap V) {B : Nat} (hB : w.heap.size ≤ B) (hb : Below B w u) : Came u A len cap V :=
  ⟨c.le, c.max, fun h => by
    obtain ⟨b, off, h1, h2, h3⟩ := c.at_ h
    exact ⟨b, off, h1, by have := hb.size; omega, fun i hi => (hb.cell (p := ⟨b, off + i, none⟩) (by show b < B; omega)).trans (h3 i hi)⟩⟩

theorem run_zero : runL (fun _ => 0) 1 (1 + 1) 0 [] = ([(0, 1, 0, 0, 0)], 0) := by
  simp [runL, rd, bearsN]

set_option maxHeartbeats 4000000 in
theorem known_any (w : World) : Calls Try.prog 9 #[] w fun e w' => e = .returned (.bool true) ∧ Below w.heap.size w w' := by
  have C := fun (u : World) (c : Came u (some ⟨w.heap.size, 0, none⟩) 1 1 fun j => .int .u8 0) => all_any (some ⟨w.heap.size, 0, none⟩) 1 1 (fun _ => 0) u c (by omega) (fun _ _ => by omega)
  rw [run_zero] at C
  have HC := Lib.hid C
  clear C
  go_enter Try.func9, Try.ntmps9
  go_wp2_with fail
  refine (HC.out _ ⟨by omega, by omega, fun _ => ⟨_, 0, rfl, by simp, ?_⟩⟩).mono ?_
  · intro i hi
    obtain rfl : i = 0 := by omega
    go_simp
  rintro e u ⟨⟨B, n, rfl, hr⟩, hb⟩
  obtain ⟨b, rfl, _, _, hc⟩ := hr (by simp)
  have HB := Lib.hid (((Below.refl w.heap.size w).alloc (Nat.le_refl _) _).trans (hb.mono (by simp)))
  have h0 := hc 0 _ rfl
  have h1 := hc 1 _ rfl
  have h2 := hc 2 _ rfl
  have h3 := hc 3 _ rfl
  have h4 := hc 4 _ rfl
  clear hb hc hr HC
  simp only [List.length_singleton]
  go_wp2
  all_goals (go_ret; exact ⟨by first | rfl | simp_all, HB.out⟩)

theorem names_at (k : Nat) (hk : k < 30) : (#[.int .i64 0, .int .i64 1, .int .i64 2, .int .i64 3, .int .i64 4, .int .i64 5, .int .i64 6, .int .i64 7, .int .i64 8, .int .i64 9, .int .i64 10, .int .i64 11, .int .i64 12, .int .i64 13, .int .i64 14, .int .i64 15, .int .i64 16, .int .i64 17, .int .i64 18, .int .i64 19, .int .i64 20, .int .i64 21, .int .i64 22, .int .i64 23, .int .i64 24, .int .i64 25, .int .i64 26, .int .i64 27, .int .i64 28, .int .i64 29] : Array Value)[k]? = some (.int .i64 (k : Int)) := by
  match k, hk with
  | 0, _ => rfl
  | 1, _ => rfl
  | 2, _ => rfl
  | 3, _ => rfl
  | 4, _ => rfl
  | 5, _ => rfl
  | 6, _ => rfl
  | 7, _ => rfl
  | 8, _ => rfl
  | 9, _ => rfl
  | 10, _ => rfl
  | 11, _ => rfl
  | 12, _ => rfl
  | 13, _ => rfl
  | 14, _ => rfl
  | 15, _ => rfl
  | 16, _ => rfl
  | 17, _ => rfl
  | 18, _ => rfl
  | 19, _ => rfl
  | 20, _ => rfl
  | 21, _ => rfl
  | 22, _ => rfl
  | 23, _ => rfl
  | 24, _ => rfl
  | 25, _ => rfl
  | 26, _ => rfl
  | 27, _ => rfl
  | 28, _ => rfl
  | 29, _ => rfl
  | n + 30, h => exact absurd h (by omega)

set_option maxHeartbeats 4000000 in
theorem instrNames_walk (a0 : Int) (w : World) (w0 : I64 a0) : Calls Try.prog 4 #[.int .i64 a0] w fun e w' => e = .returned (.bool true) ∧ Below w.heap.size w w' := by
  go_enter Try.func4, Try.ntmps4
  go_wp2_with fail
  refine (known_any _).mono ?_
  rintro e u1 ⟨rfl, hb1⟩
  have HB1 := Lib.hid hb1
  clear hb1
  go_wp2_with fail
  refine (within_any _ 30 (by decide) (by decide) _).mono ?_
  rintro e _ ⟨rfl, rfl⟩
  obtain ⟨k, hk⟩ : ∃ k : Nat, a0 % 30 = k := ⟨(a0 % 30).toNat, by omega⟩
  have hk30 : k < 30 := by omega
  rw [hk]
  clear hk w0
  have hkl : (k : Int) < 30 := by omega
  have hc : (u1.alloc (.cells #[.int .i64 0, .int .i64 1, .int .i64 2, .int .i64 3, .int .i64 4, .int .i64 5, .int .i64 6, .int .i64 7, .int .i64 8, .int .i64 9, .int .i64 10, .int .i64 11, .int .i64 12, .int .i64 13, .int .i64 14, .int .i64 15, .int .i64 16, .int .i64 17, .int .i64 18, .int .i64 19, .int .i64 20, .int .i64 21, .int .i64 22, .int .i64 23, .int .i64 24, .int .i64 25, .int .i64 26, .int .i64 27, .int .i64 28, .int .i64 29] 3)).cell? ⟨u1.heap.size, k, none⟩ = some (.int .i64 k) := by
    rw [World.cell?_alloc_new]
    exact names_at k hk30
  go_wp2
  all_goals (go_ret; exact ⟨by first | rfl | simp_all, HB1.out.alloc HB1.out.size _⟩)
end Go.Proofs.Ytpojffgppejhcaa
