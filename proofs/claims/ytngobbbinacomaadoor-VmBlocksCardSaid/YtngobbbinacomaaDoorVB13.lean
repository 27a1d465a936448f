/- Chapter 13: what the counter's run makes of six cells, by every way through it. Printed by gen13.py. -/
import Derived.Test.YtngobbbinacomaaDoorVA13
import Derived.RegionCalls
import Derived.Deep.QuietTactic
import Derived.BigQuiet
import Derived.Deep.RegionHeld3
import Derived.Deep.RegionWith
import Derived.Deep.DrawnRows
import Derived.Laws.Rows
import Derived.IntWalk
import Derived.Lib.Hide
namespace Go.Proofs.YtngobbbinacomaaDoor.c13
open Go.Proofs.YtngobbbinacomaaDoor
open Go.RowKit
set_option linter.unusedVariables false
attribute [local go_sem ↓] Go.wp_at_zero Go.wp_at_succ

set_option maxHeartbeats 800000 in
theorem crun_reset (b : Nat) (c0 c2 c3 c4 c5 : Int) (w : World) (h : Six w b c0 1 c2 c3 c4 c5) :
    Calls Tryd.prog 116 #[.pointer (some ⟨b, 0, none⟩)] w fun e w' => e = .returned (.tuple #[]) ∧ Six w' b c0 1 c2 (bit (decide (c2 ≤ 0))) (0) c0 ∧ w.grownBy w' (some b) := by
  obtain ⟨k0, k1, k2, k3, k4, k5, f0, f1, f2, f3, f4, f5⟩ := h
  go_enter Tryd.func116, Tryd.ntmps116
  go_wp2
  go_end0
  go_wp2
  go_region_with (first
    | (go_at_call 121; (with_reducible refine (get_any b 0 c0 _ (by decide) (by decide) ?_).mono ?_); go_simp; rintro e w' ⟨rfl, rfl⟩)
    | (go_at_call 122; (with_reducible refine (set_any b 5 c5 c0 _ (by decide) (by decide) ?_ ?_).mono ?_); go_simp; go_simp; rintro e w' ⟨rfl, rfl⟩))
  go_wp2
  go_region_with (first
    | (go_at_call 121; (with_reducible refine (get_any b 4 0 _ (by decide) (by decide) ?_).mono ?_); go_simp; rintro e w' ⟨rfl, rfl⟩)
    | (go_at_call 121; (with_reducible refine (get_any b 2 c2 _ (by decide) (by decide) ?_).mono ?_); go_simp; rintro e w' ⟨rfl, rfl⟩)
    | (go_at_call 123; (with_reducible refine (flag_any _ _).mono ?_); rintro e w' ⟨rfl, rfl⟩)
    | (go_at_call 122; (with_reducible refine (set_any b 3 c3 _ _ (by decide) (by decide) ?_ ?_).mono ?_); go_simp; go_simp; rintro e w' ⟨rfl, rfl⟩))
  go_wp2
  go_end0
  refine ⟨rfl, ?_, ?_⟩
  · constructor <;> go_simp
  · repeat (first | exact World.grownBy.refl _ _ | refine only_drew ?_ | refine only_setCell ?_ (.inl rfl) _)

set_option maxHeartbeats 800000 in
theorem crun_count (b : Nat) (c1 c2 c3 c4 : Int) (w : World) (h : Six w b 1 c1 c2 c3 c4 0) (h1 : (c1 == 1) = false) (h4 : c4 < 2147483647) :
    Calls Tryd.prog 116 #[.pointer (some ⟨b, 0, none⟩)] w fun e w' => e = .returned (.tuple #[]) ∧ Six w' b 1 c1 c2 (bit (decide (c2 ≤ IntKind.i64.wrap (c4 + 1)))) (IntKind.i64.wrap (c4 + 1)) 1 ∧ w.grownBy w' (some b) := by
  obtain ⟨v, hv⟩ : ∃ v, IntKind.i64.wrap (c4 + 1) = v := ⟨_, rfl⟩
  rw [hv]
  have HV := Lib.hid hv
  clear hv
  obtain ⟨k0, k1, k2, k3, k4, k5, f0, f1, f2, f3, f4, f5⟩ := h
  go_enter Tryd.func116, Tryd.ntmps116
  go_wp2
  have hw : IntKind.i64.wrap (c4 + 1) = v := HV.out
  go_region_with (first
    | (go_at_call 121; (with_reducible refine (get_any b 4 c4 _ (by decide) (by decide) ?_).mono ?_); go_simp; rintro e w' ⟨rfl, rfl⟩)
    | (go_at_call 122; (with_reducible refine (set_any b 4 c4 v _ (by decide) (by decide) ?_ ?_).mono ?_); go_simp; go_simp; rintro e w' ⟨rfl, rfl⟩))
  clear hw
  go_wp2
  go_region_with (first
    | (go_at_call 121; (with_reducible refine (get_any b 0 1 _ (by decide) (by decide) ?_).mono ?_); go_simp; rintro e w' ⟨rfl, rfl⟩)
    | (go_at_call 122; (with_reducible refine (set_any b 5 0 1 _ (by decide) (by decide) ?_ ?_).mono ?_); go_simp; go_simp; rintro e w' ⟨rfl, rfl⟩))
  go_wp2
  go_region_with (first
    | (go_at_call 121; (with_reducible refine (get_any b 4 v _ (by decide) (by decide) ?_).mono ?_); go_simp; rintro e w' ⟨rfl, rfl⟩)
    | (go_at_call 121; (with_reducible refine (get_any b 2 c2 _ (by decide) (by decide) ?_).mono ?_); go_simp; rintro e w' ⟨rfl, rfl⟩)
    | (go_at_call 123; (with_reducible refine (flag_any _ _).mono ?_); rintro e w' ⟨rfl, rfl⟩)
    | (go_at_call 122; (with_reducible refine (set_any b 3 c3 _ _ (by decide) (by decide) ?_ ?_).mono ?_); go_simp; go_simp; rintro e w' ⟨rfl, rfl⟩))
  go_wp2
  go_end0
  refine ⟨rfl, ?_, ?_⟩
  · constructor <;> go_simp
  · repeat (first | exact World.grownBy.refl _ _ | refine only_drew ?_ | refine only_setCell ?_ (.inl rfl) _)

set_option maxHeartbeats 800000 in
theorem crun_low (b : Nat) (c0 c1 c2 c3 c4 c5 : Int) (w : World) (h : Six w b c0 c1 c2 c3 c4 c5) (h1 : (c1 == 1) = false) (h0 : (c0 == 1) = false) :
    Calls Tryd.prog 116 #[.pointer (some ⟨b, 0, none⟩)] w fun e w' => e = .returned (.tuple #[]) ∧ Six w' b c0 c1 c2 (bit (decide (c2 ≤ c4))) (c4) c0 ∧ w.grownBy w' (some b) := by
  obtain ⟨k0, k1, k2, k3, k4, k5, f0, f1, f2, f3, f4, f5⟩ := h
  go_enter Tryd.func116, Tryd.ntmps116
  go_wp2
  go_region_with (first
    | (go_at_call 121; (with_reducible refine (get_any b 0 c0 _ (by decide) (by decide) ?_).mono ?_); go_simp; rintro e w' ⟨rfl, rfl⟩)
    | (go_at_call 122; (with_reducible refine (set_any b 5 c5 c0 _ (by decide) (by decide) ?_ ?_).mono ?_); go_simp; go_simp; rintro e w' ⟨rfl, rfl⟩))
  go_wp2
  go_region_with (first
    | (go_at_call 121; (with_reducible refine (get_any b 4 c4 _ (by decide) (by decide) ?_).mono ?_); go_simp; rintro e w' ⟨rfl, rfl⟩)
    | (go_at_call 121; (with_reducible refine (get_any b 2 c2 _ (by decide) (by decide) ?_).mono ?_); go_simp; rintro e w' ⟨rfl, rfl⟩)
    | (go_at_call 123; (with_reducible refine (flag_any _ _).mono ?_); rintro e w' ⟨rfl, rfl⟩)
    | (go_at_call 122; (with_reducible refine (set_any b 3 c3 _ _ (by decide) (by decide) ?_ ?_).mono ?_); go_simp; go_simp; rintro e w' ⟨rfl, rfl⟩))
  go_wp2
  go_end0
  refine ⟨rfl, ?_, ?_⟩
  · constructor <;> go_simp
  · repeat (first | exact World.grownBy.refl _ _ | refine only_drew ?_ | refine only_setCell ?_ (.inl rfl) _)

set_option maxHeartbeats 800000 in
theorem crun_held (b : Nat) (c1 c2 c3 c4 c5 : Int) (w : World) (h : Six w b 1 c1 c2 c3 c4 c5) (h1 : (c1 == 1) = false) (h5 : (c5 == 0) = false) :
    Calls Tryd.prog 116 #[.pointer (some ⟨b, 0, none⟩)] w fun e w' => e = .returned (.tuple #[]) ∧ Six w' b 1 c1 c2 (bit (decide (c2 ≤ c4))) (c4) 1 ∧ w.grownBy w' (some b) := by
  obtain ⟨k0, k1, k2, k3, k4, k5, f0, f1, f2, f3, f4, f5⟩ := h
  go_enter Tryd.func116, Tryd.ntmps116
  go_wp2
  go_region_with (first
    | (go_at_call 121; (with_reducible refine (get_any b 0 1 _ (by decide) (by decide) ?_).mono ?_); go_simp; rintro e w' ⟨rfl, rfl⟩)
    | (go_at_call 122; (with_reducible refine (set_any b 5 c5 1 _ (by decide) (by decide) ?_ ?_).mono ?_); go_simp; go_simp; rintro e w' ⟨rfl, rfl⟩))
  go_wp2
  go_region_with (first
    | (go_at_call 121; (with_reducible refine (get_any b 4 c4 _ (by decide) (by decide) ?_).mono ?_); go_simp; rintro e w' ⟨rfl, rfl⟩)
    | (go_at_call 121; (with_reducible refine (get_any b 2 c2 _ (by decide) (by decide) ?_).mono ?_); go_simp; rintro e w' ⟨rfl, rfl⟩)
    | (go_at_call 123; (with_reducible refine (flag_any _ _).mono ?_); rintro e w' ⟨rfl, rfl⟩)
    | (go_at_call 122; (with_reducible refine (set_any b 3 c3 _ _ (by decide) (by decide) ?_ ?_).mono ?_); go_simp; go_simp; rintro e w' ⟨rfl, rfl⟩))
  go_wp2
  go_end0
  refine ⟨rfl, ?_, ?_⟩
  · constructor <;> go_simp
  · repeat (first | exact World.grownBy.refl _ _ | refine only_drew ?_ | refine only_setCell ?_ (.inl rfl) _)

set_option maxHeartbeats 800000 in
theorem crun_top (b : Nat) (c1 c2 c3 c4 : Int) (w : World) (h : Six w b 1 c1 c2 c3 c4 0) (h1 : (c1 == 1) = false) (h4 : ¬ c4 < 2147483647) :
    Calls Tryd.prog 116 #[.pointer (some ⟨b, 0, none⟩)] w fun e w' => e = .returned (.tuple #[]) ∧ Six w' b 1 c1 c2 (bit (decide (c2 ≤ c4))) (c4) 1 ∧ w.grownBy w' (some b) := by
  obtain ⟨k0, k1, k2, k3, k4, k5, f0, f1, f2, f3, f4, f5⟩ := h
  go_enter Tryd.func116, Tryd.ntmps116
  go_wp2
  go_region_with (first
    | (go_at_call 121; (with_reducible refine (get_any b 0 1 _ (by decide) (by decide) ?_).mono ?_); go_simp; rintro e w' ⟨rfl, rfl⟩)
    | (go_at_call 122; (with_reducible refine (set_any b 5 0 1 _ (by decide) (by decide) ?_ ?_).mono ?_); go_simp; go_simp; rintro e w' ⟨rfl, rfl⟩))
  go_wp2
  go_region_with (first
    | (go_at_call 121; (with_reducible refine (get_any b 4 c4 _ (by decide) (by decide) ?_).mono ?_); go_simp; rintro e w' ⟨rfl, rfl⟩)
    | (go_at_call 121; (with_reducible refine (get_any b 2 c2 _ (by decide) (by decide) ?_).mono ?_); go_simp; rintro e w' ⟨rfl, rfl⟩)
    | (go_at_call 123; (with_reducible refine (flag_any _ _).mono ?_); rintro e w' ⟨rfl, rfl⟩)
    | (go_at_call 122; (with_reducible refine (set_any b 3 c3 _ _ (by decide) (by decide) ?_ ?_).mono ?_); go_simp; go_simp; rintro e w' ⟨rfl, rfl⟩))
  go_wp2
  go_end0
  refine ⟨rfl, ?_, ?_⟩
  · constructor <;> go_simp
  · repeat (first | exact World.grownBy.refl _ _ | refine only_drew ?_ | refine only_setCell ?_ (.inl rfl) _)
end Go.Proofs.YtngobbbinacomaaDoor.c13
