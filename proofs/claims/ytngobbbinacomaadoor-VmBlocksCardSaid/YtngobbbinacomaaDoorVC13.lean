/- Chapter 13: what the timer's run makes of six cells, by every way through it. Printed by gen13.py. -/
import Derived.Test.YtngobbbinacomaaDoorVA13
import Derived.RegionCalls
import Derived.Deep.QuietTactic
import Derived.BigQuiet
import Derived.Deep.RegionHeld3
import Derived.Deep.RegionWith
import Derived.Deep.DrawnRows
import Derived.Laws.Rows
import Derived.IntWalk
namespace Go.Proofs.YtngobbbinacomaaDoor.c13
open Go.Proofs.YtngobbbinacomaaDoor
open Go.RowKit
set_option linter.unusedVariables false
attribute [local go_sem ↓] Go.wp_at_zero Go.wp_at_succ

set_option maxHeartbeats 800000 in
theorem trun_off (b : Nat) (c1 c2 c3 c4 c5 now : Int) (w : World) (h : Six w b 0 c1 c2 c3 c4 c5) :
    Calls Tryd.prog 115 #[.pointer (some ⟨b, 0, none⟩), .int .i64 now] w fun e w' => e = .returned (.tuple #[]) ∧ Six w' b 0 c1 0 0 c4 0 ∧ w.grownBy w' (some b) := by
  obtain ⟨k0, k1, k2, k3, k4, k5, f0, f1, f2, f3, f4, f5⟩ := h
  go_enter Tryd.func115, Tryd.ntmps115
  go_wp2
  go_end0
  go_wp2
  go_end0
  go_wp2
  go_end0
  go_wp2
  refine bodyPost_ret (results_none rfl _ _ _) rfl ?_
  refine ⟨rfl, ?_, ?_⟩
  · constructor <;> go_simp
  · repeat (first | exact World.grownBy.refl _ _ | refine only_drew ?_ | refine only_setCell ?_ (.inl rfl) _)

set_option maxHeartbeats 800000 in
theorem trun_fresh_neg (b : Nat) (c0 c1 c2 c3 c4 now : Int) (w : World) (h : Six w b c0 c1 c2 c3 c4 0) (h0 : (c0 == 0) = false) (hc : c1 < 0) :
    Calls Tryd.prog 115 #[.pointer (some ⟨b, 0, none⟩), .int .i64 now] w fun e w' => e = .returned (.tuple #[]) ∧ Six w' b c0 c1 (bit (decide (c1 ≤ 0))) 0 now 1 ∧ w.grownBy w' (some b) := by
  obtain ⟨k0, k1, k2, k3, k4, k5, f0, f1, f2, f3, f4, f5⟩ := h
  go_enter Tryd.func115, Tryd.ntmps115
  go_wp2
  go_end0
  go_wp2
  go_end0
  go_wp2
  go_region_with (first
    | (go_at_call 121; (with_reducible refine (get_any b 1 c1 _ (by decide) (by decide) ?_).mono ?_); go_simp; rintro e w' ⟨rfl, rfl⟩)
    | (go_at_call 122; (with_reducible refine (set_any b 3 c3 _ _ (by decide) (by decide) ?_ ?_).mono ?_); go_simp; go_simp; rintro e w' ⟨rfl, rfl⟩))
  go_wp2
  go_region_with (first
    | (go_at_call 121; (with_reducible refine (get_any b 1 c1 _ (by decide) (by decide) ?_).mono ?_); go_simp; rintro e w' ⟨rfl, rfl⟩)
    | (go_at_call 123; (with_reducible refine (flag_any _ _).mono ?_); rintro e w' ⟨rfl, rfl⟩)
    | (go_at_call 122; (with_reducible refine (set_any b 2 c2 _ _ (by decide) (by decide) ?_ ?_).mono ?_); go_simp; go_simp; rintro e w' ⟨rfl, rfl⟩))
  go_wp2
  go_end0
  refine ⟨rfl, ?_, ?_⟩
  · constructor <;> go_simp
  · repeat (first | exact World.grownBy.refl _ _ | refine only_drew ?_ | refine only_setCell ?_ (.inl rfl) _)

set_option maxHeartbeats 800000 in
theorem trun_fresh_pos (b : Nat) (c0 c1 c2 c3 c4 now : Int) (w : World) (h : Six w b c0 c1 c2 c3 c4 0) (h0 : (c0 == 0) = false) (hc : ¬ c1 < 0) :
    Calls Tryd.prog 115 #[.pointer (some ⟨b, 0, none⟩), .int .i64 now] w fun e w' => e = .returned (.tuple #[]) ∧ Six w' b c0 c1 (bit (decide (c1 ≤ 0))) 0 now 1 ∧ w.grownBy w' (some b) := by
  obtain ⟨k0, k1, k2, k3, k4, k5, f0, f1, f2, f3, f4, f5⟩ := h
  go_enter Tryd.func115, Tryd.ntmps115
  go_wp2
  go_end0
  go_wp2
  go_end0
  go_wp2
  go_region_with (first
    | (go_at_call 121; (with_reducible refine (get_any b 1 c1 _ (by decide) (by decide) ?_).mono ?_); go_simp; rintro e w' ⟨rfl, rfl⟩)
    | (go_at_call 122; (with_reducible refine (set_any b 3 c3 _ _ (by decide) (by decide) ?_ ?_).mono ?_); go_simp; go_simp; rintro e w' ⟨rfl, rfl⟩))
  go_wp2
  go_region_with (first
    | (go_at_call 121; (with_reducible refine (get_any b 1 c1 _ (by decide) (by decide) ?_).mono ?_); go_simp; rintro e w' ⟨rfl, rfl⟩)
    | (go_at_call 123; (with_reducible refine (flag_any _ _).mono ?_); rintro e w' ⟨rfl, rfl⟩)
    | (go_at_call 122; (with_reducible refine (set_any b 2 c2 _ _ (by decide) (by decide) ?_ ?_).mono ?_); go_simp; go_simp; rintro e w' ⟨rfl, rfl⟩))
  go_wp2
  go_end0
  refine ⟨rfl, ?_, ?_⟩
  · constructor <;> go_simp
  · repeat (first | exact World.grownBy.refl _ _ | refine only_drew ?_ | refine only_setCell ?_ (.inl rfl) _)

set_option maxHeartbeats 800000 in
theorem trun_back_neg (b : Nat) (c0 c1 c2 c3 c4 c5 now : Int) (w : World) (h : Six w b c0 c1 c2 c3 c4 c5) (h0 : (c0 == 0) = false) (h5 : (c5 == 0) = false) (hd : wrap64 (now - c4) < 0) (hc : c1 < 0) :
    Calls Tryd.prog 115 #[.pointer (some ⟨b, 0, none⟩), .int .i64 now] w fun e w' => e = .returned (.tuple #[]) ∧ Six w' b c0 c1 (bit (decide (c1 ≤ 0))) 0 c4 c5 ∧ w.grownBy w' (some b) := by
  obtain ⟨k0, k1, k2, k3, k4, k5, f0, f1, f2, f3, f4, f5⟩ := h
  go_enter Tryd.func115, Tryd.ntmps115
  go_wp2
  go_region_with (first
    | (go_at_call 121; (with_reducible refine (get_any b 1 c1 _ (by decide) (by decide) ?_).mono ?_); go_simp; rintro e w' ⟨rfl, rfl⟩)
    | (go_at_call 122; (with_reducible refine (set_any b 3 c3 _ _ (by decide) (by decide) ?_ ?_).mono ?_); go_simp; go_simp; rintro e w' ⟨rfl, rfl⟩))
  go_wp2
  go_region_with (first
    | (go_at_call 121; (with_reducible refine (get_any b 1 c1 _ (by decide) (by decide) ?_).mono ?_); go_simp; rintro e w' ⟨rfl, rfl⟩)
    | (go_at_call 123; (with_reducible refine (flag_any _ _).mono ?_); rintro e w' ⟨rfl, rfl⟩)
    | (go_at_call 122; (with_reducible refine (set_any b 2 c2 _ _ (by decide) (by decide) ?_ ?_).mono ?_); go_simp; go_simp; rintro e w' ⟨rfl, rfl⟩))
  go_wp2
  go_end0
  refine ⟨rfl, ?_, ?_⟩
  · constructor <;> go_simp
  · repeat (first | exact World.grownBy.refl _ _ | refine only_drew ?_ | refine only_setCell ?_ (.inl rfl) _)

set_option maxHeartbeats 800000 in
theorem trun_back_pos (b : Nat) (c0 c1 c2 c3 c4 c5 now : Int) (w : World) (h : Six w b c0 c1 c2 c3 c4 c5) (h0 : (c0 == 0) = false) (h5 : (c5 == 0) = false) (hd : wrap64 (now - c4) < 0) (hc : ¬ c1 < 0) :
    Calls Tryd.prog 115 #[.pointer (some ⟨b, 0, none⟩), .int .i64 now] w fun e w' => e = .returned (.tuple #[]) ∧ Six w' b c0 c1 (bit (decide (c1 ≤ 0))) 0 c4 c5 ∧ w.grownBy w' (some b) := by
  obtain ⟨k0, k1, k2, k3, k4, k5, f0, f1, f2, f3, f4, f5⟩ := h
  go_enter Tryd.func115, Tryd.ntmps115
  go_wp2
  go_region_with (first
    | (go_at_call 121; (with_reducible refine (get_any b 1 c1 _ (by decide) (by decide) ?_).mono ?_); go_simp; rintro e w' ⟨rfl, rfl⟩)
    | (go_at_call 122; (with_reducible refine (set_any b 3 c3 _ _ (by decide) (by decide) ?_ ?_).mono ?_); go_simp; go_simp; rintro e w' ⟨rfl, rfl⟩))
  go_wp2
  go_region_with (first
    | (go_at_call 121; (with_reducible refine (get_any b 1 c1 _ (by decide) (by decide) ?_).mono ?_); go_simp; rintro e w' ⟨rfl, rfl⟩)
    | (go_at_call 123; (with_reducible refine (flag_any _ _).mono ?_); rintro e w' ⟨rfl, rfl⟩)
    | (go_at_call 122; (with_reducible refine (set_any b 2 c2 _ _ (by decide) (by decide) ?_ ?_).mono ?_); go_simp; go_simp; rintro e w' ⟨rfl, rfl⟩))
  go_wp2
  go_end0
  refine ⟨rfl, ?_, ?_⟩
  · constructor <;> go_simp
  · repeat (first | exact World.grownBy.refl _ _ | refine only_drew ?_ | refine only_setCell ?_ (.inl rfl) _)

set_option maxHeartbeats 800000 in
theorem trun_less (b : Nat) (c0 c1 c2 c3 c4 c5 now : Int) (w : World) (h : Six w b c0 c1 c2 c3 c4 c5) (h0 : (c0 == 0) = false) (h5 : (c5 == 0) = false) (hd : ¬ wrap64 (now - c4) < 0) (hc : ¬ c1 < wrap64 (now - c4)) :
    Calls Tryd.prog 115 #[.pointer (some ⟨b, 0, none⟩), .int .i64 now] w fun e w' => e = .returned (.tuple #[]) ∧ Six w' b c0 c1 (bit (decide (c1 ≤ wrap64 (now - c4)))) (wrap64 (now - c4)) c4 c5 ∧ w.grownBy w' (some b) := by
  obtain ⟨k0, k1, k2, k3, k4, k5, f0, f1, f2, f3, f4, f5⟩ := h
  go_enter Tryd.func115, Tryd.ntmps115
  go_wp2
  go_region_with (first
    | (go_at_call 121; (with_reducible refine (get_any b 1 c1 _ (by decide) (by decide) ?_).mono ?_); go_simp; rintro e w' ⟨rfl, rfl⟩)
    | (go_at_call 122; (with_reducible refine (set_any b 3 c3 _ _ (by decide) (by decide) ?_ ?_).mono ?_); go_simp; go_simp; rintro e w' ⟨rfl, rfl⟩))
  go_wp2
  go_region_with (first
    | (go_at_call 121; (with_reducible refine (get_any b 1 c1 _ (by decide) (by decide) ?_).mono ?_); go_simp; rintro e w' ⟨rfl, rfl⟩)
    | (go_at_call 123; (with_reducible refine (flag_any _ _).mono ?_); rintro e w' ⟨rfl, rfl⟩)
    | (go_at_call 122; (with_reducible refine (set_any b 2 c2 _ _ (by decide) (by decide) ?_ ?_).mono ?_); go_simp; go_simp; rintro e w' ⟨rfl, rfl⟩))
  go_wp2
  go_end0
  refine ⟨rfl, ?_, ?_⟩
  · constructor <;> go_simp
  · repeat (first | exact World.grownBy.refl _ _ | refine only_drew ?_ | refine only_setCell ?_ (.inl rfl) _)

set_option maxHeartbeats 800000 in
theorem trun_more_neg (b : Nat) (c0 c1 c2 c3 c4 c5 now : Int) (w : World) (h : Six w b c0 c1 c2 c3 c4 c5) (h0 : (c0 == 0) = false) (h5 : (c5 == 0) = false) (hd : ¬ wrap64 (now - c4) < 0) (hc : c1 < wrap64 (now - c4)) (hn : c1 < 0) :
    Calls Tryd.prog 115 #[.pointer (some ⟨b, 0, none⟩), .int .i64 now] w fun e w' => e = .returned (.tuple #[]) ∧ Six w' b c0 c1 (bit (decide (c1 ≤ wrap64 (now - c4)))) 0 c4 c5 ∧ w.grownBy w' (some b) := by
  obtain ⟨k0, k1, k2, k3, k4, k5, f0, f1, f2, f3, f4, f5⟩ := h
  go_enter Tryd.func115, Tryd.ntmps115
  go_wp2
  go_region_with (first
    | (go_at_call 121; (with_reducible refine (get_any b 1 c1 _ (by decide) (by decide) ?_).mono ?_); go_simp; rintro e w' ⟨rfl, rfl⟩)
    | (go_at_call 122; (with_reducible refine (set_any b 3 c3 _ _ (by decide) (by decide) ?_ ?_).mono ?_); go_simp; go_simp; rintro e w' ⟨rfl, rfl⟩))
  go_wp2
  go_region_with (first
    | (go_at_call 121; (with_reducible refine (get_any b 1 c1 _ (by decide) (by decide) ?_).mono ?_); go_simp; rintro e w' ⟨rfl, rfl⟩)
    | (go_at_call 123; (with_reducible refine (flag_any _ _).mono ?_); rintro e w' ⟨rfl, rfl⟩)
    | (go_at_call 122; (with_reducible refine (set_any b 2 c2 _ _ (by decide) (by decide) ?_ ?_).mono ?_); go_simp; go_simp; rintro e w' ⟨rfl, rfl⟩))
  go_wp2
  go_end0
  refine ⟨rfl, ?_, ?_⟩
  · constructor <;> go_simp
  · repeat (first | exact World.grownBy.refl _ _ | refine only_drew ?_ | refine only_setCell ?_ (.inl rfl) _)

set_option maxHeartbeats 800000 in
theorem trun_more_pos (b : Nat) (c0 c1 c2 c3 c4 c5 now : Int) (w : World) (h : Six w b c0 c1 c2 c3 c4 c5) (h0 : (c0 == 0) = false) (h5 : (c5 == 0) = false) (hd : ¬ wrap64 (now - c4) < 0) (hc : c1 < wrap64 (now - c4)) (hn : ¬ c1 < 0) :
    Calls Tryd.prog 115 #[.pointer (some ⟨b, 0, none⟩), .int .i64 now] w fun e w' => e = .returned (.tuple #[]) ∧ Six w' b c0 c1 (bit (decide (c1 ≤ wrap64 (now - c4)))) c1 c4 c5 ∧ w.grownBy w' (some b) := by
  obtain ⟨k0, k1, k2, k3, k4, k5, f0, f1, f2, f3, f4, f5⟩ := h
  go_enter Tryd.func115, Tryd.ntmps115
  go_wp2
  go_region_with (first
    | (go_at_call 121; (with_reducible refine (get_any b 1 c1 _ (by decide) (by decide) ?_).mono ?_); go_simp; rintro e w' ⟨rfl, rfl⟩)
    | (go_at_call 122; (with_reducible refine (set_any b 3 c3 _ _ (by decide) (by decide) ?_ ?_).mono ?_); go_simp; go_simp; rintro e w' ⟨rfl, rfl⟩))
  go_wp2
  go_region_with (first
    | (go_at_call 121; (with_reducible refine (get_any b 1 c1 _ (by decide) (by decide) ?_).mono ?_); go_simp; rintro e w' ⟨rfl, rfl⟩)
    | (go_at_call 123; (with_reducible refine (flag_any _ _).mono ?_); rintro e w' ⟨rfl, rfl⟩)
    | (go_at_call 122; (with_reducible refine (set_any b 2 c2 _ _ (by decide) (by decide) ?_ ?_).mono ?_); go_simp; go_simp; rintro e w' ⟨rfl, rfl⟩))
  go_wp2
  go_end0
  refine ⟨rfl, ?_, ?_⟩
  · constructor <;> go_simp
  · repeat (first | exact World.grownBy.refl _ _ | refine only_drew ?_ | refine only_setCell ?_ (.inl rfl) _)
end Go.Proofs.YtngobbbinacomaaDoor.c13
