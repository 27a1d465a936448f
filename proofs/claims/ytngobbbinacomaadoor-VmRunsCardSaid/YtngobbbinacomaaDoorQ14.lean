/- Texts of VA13, VEq13, VB13, VC13, VD13, VE13, in one. -/
import Derived.Test.YtngobbbinacomaaDoorRows
import Derived.WalkKit
import Derived.WalkSpells
import Derived.WalkLawsBesides
import Derived.Lib.Hide
import Derived.Laws.StructEq
import Derived.Laws.Tables
import Derived.Laws.Cover2
import Derived.KernelRfl
import Derived.RegionCalls
import Derived.Deep.QuietTactic
import Derived.BigQuiet
import Derived.Deep.RegionHeld3
import Derived.Deep.RegionWith
import Derived.Deep.DrawnRows
import Derived.Laws.Rows
import Derived.IntWalk
/- Contracts of the small helpers of chapter 13: within, flag, get, set. -/
namespace Go.Proofs.YtngobbbinacomaaDoor.c13
open Go.Proofs.YtngobbbinacomaaDoor
set_option linter.unusedVariables false
open Go.RowKit
/-- A cell of a block is read. -/
theorem get_any (b : Nat) (k v : Int) (w : World) (h1 : 0 ≤ k) (h2 : k < 6) (hc : w.cell? ⟨b, k.toNat, none⟩ = some (.int .i64 v)) :
    Calls Tryd.prog 121 #[.pointer (some ⟨b, 0, none⟩), .int .i64 k] w fun e w' => e = .returned (.int .i64 v) ∧ w = w' := by
  go_enter Tryd.func121, Tryd.ntmps121
  go_wp2
  go_ret
  exact ⟨rfl, rfl⟩
/-- A cell of a block is written. -/
theorem set_any (b : Nat) (k v n : Int) (w : World) (h1 : 0 ≤ k) (h2 : k < 6) (hc : w.cell? ⟨b, k.toNat, none⟩ = some (.int .i64 v)) (hf : w.frozen? ⟨b, k.toNat, none⟩ = false) :
    Calls Tryd.prog 122 #[.pointer (some ⟨b, 0, none⟩), .int .i64 k, .int .i64 n] w fun e w' => e = .returned (.tuple #[]) ∧ w.setCell ⟨b, k.toNat, none⟩ (.int .i64 n) = w' := by
  go_enter Tryd.func122, Tryd.ntmps122
  go_wp2
  go_end0
  exact ⟨rfl, rfl⟩
/-- A Bool as a number (under a name: an open 'if' would part every walk). -/
def bit (t : Bool) : Int := if t then 1 else 0
theorem flag_any (t : Bool) (w : World) :
    Calls Tryd.prog 123 #[.bool t] w fun e w' => e = .returned (.int .i64 (bit t)) ∧ w = w' := by
  cases t
  · go_enter Tryd.func123, Tryd.ntmps123
    go_wp2
    go_ret
    exact ⟨rfl, rfl⟩
  · go_enter Tryd.func123, Tryd.ntmps123
    go_wp2
    go_ret
    exact ⟨rfl, rfl⟩
/-- Six cells of integers in a block that none has frozen. -/
structure Six (w : World) (b : Nat) (c0 c1 c2 c3 c4 c5 : Int) : Prop where
  k0 : w.cell? ⟨b, 0, none⟩ = some (.int .i64 c0)
  k1 : w.cell? ⟨b, 1, none⟩ = some (.int .i64 c1)
  k2 : w.cell? ⟨b, 2, none⟩ = some (.int .i64 c2)
  k3 : w.cell? ⟨b, 3, none⟩ = some (.int .i64 c3)
  k4 : w.cell? ⟨b, 4, none⟩ = some (.int .i64 c4)
  k5 : w.cell? ⟨b, 5, none⟩ = some (.int .i64 c5)
  f0 : w.frozen? ⟨b, 0, none⟩ = false
  f1 : w.frozen? ⟨b, 1, none⟩ = false
  f2 : w.frozen? ⟨b, 2, none⟩ = false
  f3 : w.frozen? ⟨b, 3, none⟩ = false
  f4 : w.frozen? ⟨b, 4, none⟩ = false
  f5 : w.frozen? ⟨b, 5, none⟩ = false
theorem only_drew {a w : World} {row : Option Nat} (h : a.grownBy w row) : a.grownBy w.drew row := ⟨h.os, h.tape, h.output, h.size, h.block⟩
theorem only_setCell {a w : World} {g : Nat} (h : a.grownBy w (some g)) {p : Addr} (hp : p.block = g ∨ a.heap.size ≤ p.block) (u : Value) : a.grownBy (w.setCell p u) (some g) :=
  ⟨h.os, h.tape, h.output, by simpa [World.setCell] using h.size, fun i hi hne => (Below.heap_setCell w p u i (by
    rintro rfl
    rcases hp with hp | hp
    · exact hne (by rw [hp])
    · omega)).trans (h.block i hi hne)⟩
end Go.Proofs.YtngobbbinacomaaDoor.c13
/- '==' of two arrays of six ints. -/
namespace Go.Proofs.YtngobbbinacomaaDoor.c13
open Go.Proofs.YtngobbbinacomaaDoor
theorem eq6 (a0 a1 a2 a3 a4 a5 b0 b1 b2 b3 b4 b5 : Int) (w : World) :
    (Op.equalIn 10000 60 (.agg #[.int .i64 a0, .int .i64 a1, .int .i64 a2, .int .i64 a3, .int .i64 a4, .int .i64 a5]) (.agg #[.int .i64 b0, .int .i64 b1, .int .i64 b2, .int .i64 b3, .int .i64 b4, .int .i64 b5])).run Tryd.prog w
      = .ok (decide (a0 = b0 ∧ a1 = b1 ∧ a2 = b2 ∧ a3 = b3 ∧ a4 = b4 ∧ a5 = b5)) w := by
  have iu := Tryd.underlying3
  have ia := Tryd.isAgg3
  have iz := Tryd.sizeOf3
  rw [show (10000 : Nat) = 9999 + 1 from rfl, Op.equalIn]
  simp only [Sem.run_bind, run_underlying Tryd.underlying60, Result.andThen_ok]
  simp only [Std.Legacy.Range.forIn_eq_forIn_range', Std.Legacy.Range.size, Nat.sub_zero, Nat.add_sub_cancel, Nat.div_one, List.range'_succ, List.range'_zero, List.forIn_cons, List.forIn_nil]
  go_simp
  by_cases h0 : a0 = b0
  · by_cases h1 : a1 = b1
    · by_cases h2 : a2 = b2
      · by_cases h3 : a3 = b3
        · by_cases h4 : a4 = b4
          · by_cases h5 : a5 = b5 <;> simp [h0, h1, h2, h3, h4, h5]
          · simp [h0, h1, h2, h3, h4]
        · simp [h0, h1, h2, h3]
      · simp [h0, h1, h2]
    · simp [h0, h1]
  · simp [h0]
end Go.Proofs.YtngobbbinacomaaDoor.c13
/- Chapter 13: what the counter's run makes of six cells, by every way through it. Printed by gen13.py. -/
namespace Go.Proofs.YtngobbbinacomaaDoor.c13
open Go.Proofs.YtngobbbinacomaaDoor
open Go.RowKit
set_option linter.unusedVariables false
attribute [local go_sem ↓] Go.wp_at_zero Go.wp_at_succ
set_option maxHeartbeats 800000 in
theorem crun_reset (b : Nat) (c0 c2 c3 c4 c5 : Int) (w : World) (h : Six w b c0 1 c2 c3 c4 c5) :
    Calls Tryd.prog 116 #[.pointer (some ⟨b, 0, none⟩)] w fun e w' => e = .returned (.tuple #[]) ∧ Six w' b c0 1 c2 (bit (decide (c2 ≤ 0))) (0) c0 ∧ w.grownBy w' (some b) := by
  obtain ⟨k0, k1, k2, k3, k4, k5, f0, f1, f2, f3, f4, f5⟩ := h
  go_enter Tryd.func116, Tryd.ntmps116
  go_wp2
  go_end0
  go_wp2
  go_region_with (first
    | (go_at_call 121; (with_reducible refine (get_any b 0 c0 _ (by decide) (by decide) ?_).mono ?_); go_simp; rintro e w' ⟨rfl, rfl⟩)
    | (go_at_call 122; (with_reducible refine (set_any b 5 c5 c0 _ (by decide) (by decide) ?_ ?_).mono ?_); go_simp; go_simp; rintro e w' ⟨rfl, rfl⟩))
  go_wp2
  go_region_with (first
    | (go_at_call 121; (with_reducible refine (get_any b 4 0 _ (by decide) (by decide) ?_).mono ?_); go_simp; rintro e w' ⟨rfl, rfl⟩)
    | (go_at_call 121; (with_reducible refine (get_any b 2 c2 _ (by decide) (by decide) ?_).mono ?_); go_simp; rintro e w' ⟨rfl, rfl⟩)
    | (go_at_call 123; (with_reducible refine (flag_any _ _).mono ?_); rintro e w' ⟨rfl, rfl⟩)
    | (go_at_call 122; (with_reducible refine (set_any b 3 c3 _ _ (by decide) (by decide) ?_ ?_).mono ?_); go_simp; go_simp; rintro e w' ⟨rfl, rfl⟩))
  go_wp2
  go_end0
  refine ⟨rfl, ?_, ?_⟩
  · constructor <;> go_simp
  · repeat (first | exact World.grownBy.refl _ _ | refine only_drew ?_ | refine only_setCell ?_ (.inl rfl) _)
set_option maxHeartbeats 800000 in
theorem crun_count (b : Nat) (c1 c2 c3 c4 : Int) (w : World) (h : Six w b 1 c1 c2 c3 c4 0) (h1 : (c1 == 1) = false) (h4 : c4 < 2147483647) :
    Calls Tryd.prog 116 #[.pointer (some ⟨b, 0, none⟩)] w fun e w' => e = .returned (.tuple #[]) ∧ Six w' b 1 c1 c2 (bit (decide (c2 ≤ IntKind.i64.wrap (c4 + 1)))) (IntKind.i64.wrap (c4 + 1)) 1 ∧ w.grownBy w' (some b) := by
  obtain ⟨v, hv⟩ : ∃ v, IntKind.i64.wrap (c4 + 1) = v := ⟨_, rfl⟩
  rw [hv]
  have HV := Lib.hid hv
  clear hv
  obtain ⟨k0, k1, k2, k3, k4, k5, f0, f1, f2, f3, f4, f5⟩ := h
  go_enter Tryd.func116, Tryd.ntmps116
  go_wp2
  have hw : IntKind.i64.wrap (c4 + 1) = v := HV.out
  go_region_with (first
    | (go_at_call 121; (with_reducible refine (get_any b 4 c4 _ (by decide) (by decide) ?_).mono ?_); go_simp; rintro e w' ⟨rfl, rfl⟩)
    | (go_at_call 122; (with_reducible refine (set_any b 4 c4 v _ (by decide) (by decide) ?_ ?_).mono ?_); go_simp; go_simp; rintro e w' ⟨rfl, rfl⟩))
  clear hw
  go_wp2
  go_region_with (first
    | (go_at_call 121; (with_reducible refine (get_any b 0 1 _ (by decide) (by decide) ?_).mono ?_); go_simp; rintro e w' ⟨rfl, rfl⟩)
    | (go_at_call 122; (with_reducible refine (set_any b 5 0 1 _ (by decide) (by decide) ?_ ?_).mono ?_); go_simp; go_simp; rintro e w' ⟨rfl, rfl⟩))
  go_wp2
  go_region_with (first
    | (go_at_call 121; (with_reducible refine (get_any b 4 v _ (by decide) (by decide) ?_).mono ?_); go_simp; rintro e w' ⟨rfl, rfl⟩)
    | (go_at_call 121; (with_reducible refine (get_any b 2 c2 _ (by decide) (by decide) ?_).mono ?_); go_simp; rintro e w' ⟨rfl, rfl⟩)
    | (go_at_call 123; (with_reducible refine (flag_any _ _).mono ?_); rintro e w' ⟨rfl, rfl⟩)
    | (go_at_call 122; (with_reducible refine (set_any b 3 c3 _ _ (by decide) (by decide) ?_ ?_).mono ?_); go_simp; go_simp; rintro e w' ⟨rfl, rfl⟩))
  go_wp2
  go_end0
  refine ⟨rfl, ?_, ?_⟩
  · constructor <;> go_simp
  · repeat (first | exact World.grownBy.refl _ _ | refine only_drew ?_ | refine only_setCell ?_ (.inl rfl) _)
set_option maxHeartbeats 800000 in
theorem crun_low (b : Nat) (c0 c1 c2 c3 c4 c5 : Int) (w : World) (h : Six w b c0 c1 c2 c3 c4 c5) (h1 : (c1 == 1) = false) (h0 : (c0 == 1) = false) :
    Calls Tryd.prog 116 #[.pointer (some ⟨b, 0, none⟩)] w fun e w' => e = .returned (.tuple #[]) ∧ Six w' b c0 c1 c2 (bit (decide (c2 ≤ c4))) (c4) c0 ∧ w.grownBy w' (some b) := by
  obtain ⟨k0, k1, k2, k3, k4, k5, f0, f1, f2, f3, f4, f5⟩ := h
  go_enter Tryd.func116, Tryd.ntmps116
  go_wp2
  go_region_with (first
    | (go_at_call 121; (with_reducible refine (get_any b 0 c0 _ (by decide) (by decide) ?_).mono ?_); go_simp; rintro e w' ⟨rfl, rfl⟩)
    | (go_at_call 122; (with_reducible refine (set_any b 5 c5 c0 _ (by decide) (by decide) ?_ ?_).mono ?_); go_simp; go_simp; rintro e w' ⟨rfl, rfl⟩))
  go_wp2
  go_region_with (first
    | (go_at_call 121; (with_reducible refine (get_any b 4 c4 _ (by decide) (by decide) ?_).mono ?_); go_simp; rintro e w' ⟨rfl, rfl⟩)
    | (go_at_call 121; (with_reducible refine (get_any b 2 c2 _ (by decide) (by decide) ?_).mono ?_); go_simp; rintro e w' ⟨rfl, rfl⟩)
    | (go_at_call 123; (with_reducible refine (flag_any _ _).mono ?_); rintro e w' ⟨rfl, rfl⟩)
    | (go_at_call 122; (with_reducible refine (set_any b 3 c3 _ _ (by decide) (by decide) ?_ ?_).mono ?_); go_simp; go_simp; rintro e w' ⟨rfl, rfl⟩))
  go_wp2
  go_end0
  refine ⟨rfl, ?_, ?_⟩
  · constructor <;> go_simp
  · repeat (first | exact World.grownBy.refl _ _ | refine only_drew ?_ | refine only_setCell ?_ (.inl rfl) _)
set_option maxHeartbeats 800000 in
theorem crun_held (b : Nat) (c1 c2 c3 c4 c5 : Int) (w : World) (h : Six w b 1 c1 c2 c3 c4 c5) (h1 : (c1 == 1) = false) (h5 : (c5 == 0) = false) :
    Calls Tryd.prog 116 #[.pointer (some ⟨b, 0, none⟩)] w fun e w' => e = .returned (.tuple #[]) ∧ Six w' b 1 c1 c2 (bit (decide (c2 ≤ c4))) (c4) 1 ∧ w.grownBy w' (some b) := by
  obtain ⟨k0, k1, k2, k3, k4, k5, f0, f1, f2, f3, f4, f5⟩ := h
  go_enter Tryd.func116, Tryd.ntmps116
  go_wp2
  go_region_with (first
    | (go_at_call 121; (with_reducible refine (get_any b 0 1 _ (by decide) (by decide) ?_).mono ?_); go_simp; rintro e w' ⟨rfl, rfl⟩)
    | (go_at_call 122; (with_reducible refine (set_any b 5 c5 1 _ (by decide) (by decide) ?_ ?_).mono ?_); go_simp; go_simp; rintro e w' ⟨rfl, rfl⟩))
  go_wp2
  go_region_with (first
    | (go_at_call 121; (with_reducible refine (get_any b 4 c4 _ (by decide) (by decide) ?_).mono ?_); go_simp; rintro e w' ⟨rfl, rfl⟩)
    | (go_at_call 121; (with_reducible refine (get_any b 2 c2 _ (by decide) (by decide) ?_).mono ?_); go_simp; rintro e w' ⟨rfl, rfl⟩)
    | (go_at_call 123; (with_reducible refine (flag_any _ _).mono ?_); rintro e w' ⟨rfl, rfl⟩)
    | (go_at_call 122; (with_reducible refine (set_any b 3 c3 _ _ (by decide) (by decide) ?_ ?_).mono ?_); go_simp; go_simp; rintro e w' ⟨rfl, rfl⟩))
  go_wp2
  go_end0
  refine ⟨rfl, ?_, ?_⟩
  · constructor <;> go_simp
  · repeat (first | exact World.grownBy.refl _ _ | refine only_drew ?_ | refine only_setCell ?_ (.inl rfl) _)
set_option maxHeartbeats 800000 in
theorem crun_top (b : Nat) (c1 c2 c3 c4 : Int) (w : World) (h : Six w b 1 c1 c2 c3 c4 0) (h1 : (c1 == 1) = false) (h4 : ¬ c4 < 2147483647) :
    Calls Tryd.prog 116 #[.pointer (some ⟨b, 0, none⟩)] w fun e w' => e = .returned (.tuple #[]) ∧ Six w' b 1 c1 c2 (bit (decide (c2 ≤ c4))) (c4) 1 ∧ w.grownBy w' (some b) := by
  obtain ⟨k0, k1, k2, k3, k4, k5, f0, f1, f2, f3, f4, f5⟩ := h
  go_enter Tryd.func116, Tryd.ntmps116
  go_wp2
  go_region_with (first
    | (go_at_call 121; (with_reducible refine (get_any b 0 1 _ (by decide) (by decide) ?_).mono ?_); go_simp; rintro e w' ⟨rfl, rfl⟩)
    | (go_at_call 122; (with_reducible refine (set_any b 5 0 1 _ (by decide) (by decide) ?_ ?_).mono ?_); go_simp; go_simp; rintro e w' ⟨rfl, rfl⟩))
  go_wp2
  go_region_with (first
    | (go_at_call 121; (with_reducible refine (get_any b 4 c4 _ (by decide) (by decide) ?_).mono ?_); go_simp; rintro e w' ⟨rfl, rfl⟩)
    | (go_at_call 121; (with_reducible refine (get_any b 2 c2 _ (by decide) (by decide) ?_).mono ?_); go_simp; rintro e w' ⟨rfl, rfl⟩)
    | (go_at_call 123; (with_reducible refine (flag_any _ _).mono ?_); rintro e w' ⟨rfl, rfl⟩)
    | (go_at_call 122; (with_reducible refine (set_any b 3 c3 _ _ (by decide) (by decide) ?_ ?_).mono ?_); go_simp; go_simp; rintro e w' ⟨rfl, rfl⟩))
  go_wp2
  go_end0
  refine ⟨rfl, ?_, ?_⟩
  · constructor <;> go_simp
  · repeat (first | exact World.grownBy.refl _ _ | refine only_drew ?_ | refine only_setCell ?_ (.inl rfl) _)
end Go.Proofs.YtngobbbinacomaaDoor.c13
/- Chapter 13: what the timer's run makes of six cells, by every way through it. Printed by gen13.py. -/
namespace Go.Proofs.YtngobbbinacomaaDoor.c13
open Go.Proofs.YtngobbbinacomaaDoor
open Go.RowKit
set_option linter.unusedVariables false
attribute [local go_sem ↓] Go.wp_at_zero Go.wp_at_succ
set_option maxHeartbeats 800000 in
theorem trun_off (b : Nat) (c1 c2 c3 c4 c5 now : Int) (w : World) (h : Six w b 0 c1 c2 c3 c4 c5) :
    Calls Tryd.prog 115 #[.pointer (some ⟨b, 0, none⟩), .int .i64 now] w fun e w' => e = .returned (.tuple #[]) ∧ Six w' b 0 c1 0 0 c4 0 ∧ w.grownBy w' (some b) := by
  obtain ⟨k0, k1, k2, k3, k4, k5, f0, f1, f2, f3, f4, f5⟩ := h
  go_enter Tryd.func115, Tryd.ntmps115
  go_wp2
  go_end0
  go_wp2
  go_end0
  go_wp2
  go_end0
  go_wp2
  refine bodyPost_ret (results_none rfl _ _ _) rfl ?_
  refine ⟨rfl, ?_, ?_⟩
  · constructor <;> go_simp
  · repeat (first | exact World.grownBy.refl _ _ | refine only_drew ?_ | refine only_setCell ?_ (.inl rfl) _)
set_option maxHeartbeats 800000 in
theorem trun_fresh_neg (b : Nat) (c0 c1 c2 c3 c4 now : Int) (w : World) (h : Six w b c0 c1 c2 c3 c4 0) (h0 : (c0 == 0) = false) (hc : c1 < 0) :
    Calls Tryd.prog 115 #[.pointer (some ⟨b, 0, none⟩), .int .i64 now] w fun e w' => e = .returned (.tuple #[]) ∧ Six w' b c0 c1 (bit (decide (c1 ≤ 0))) 0 now 1 ∧ w.grownBy w' (some b) := by
  obtain ⟨k0, k1, k2, k3, k4, k5, f0, f1, f2, f3, f4, f5⟩ := h
  go_enter Tryd.func115, Tryd.ntmps115
  go_wp2
  go_end0
  go_wp2
  go_end0
  go_wp2
  go_region_with (first
    | (go_at_call 121; (with_reducible refine (get_any b 1 c1 _ (by decide) (by decide) ?_).mono ?_); go_simp; rintro e w' ⟨rfl, rfl⟩)
    | (go_at_call 122; (with_reducible refine (set_any b 3 c3 _ _ (by decide) (by decide) ?_ ?_).mono ?_); go_simp; go_simp; rintro e w' ⟨rfl, rfl⟩))
  go_wp2
  go_region_with (first
    | (go_at_call 121; (with_reducible refine (get_any b 1 c1 _ (by decide) (by decide) ?_).mono ?_); go_simp; rintro e w' ⟨rfl, rfl⟩)
    | (go_at_call 123; (with_reducible refine (flag_any _ _).mono ?_); rintro e w' ⟨rfl, rfl⟩)
    | (go_at_call 122; (with_reducible refine (set_any b 2 c2 _ _ (by decide) (by decide) ?_ ?_).mono ?_); go_simp; go_simp; rintro e w' ⟨rfl, rfl⟩))
  go_wp2
  go_end0
  refine ⟨rfl, ?_, ?_⟩
  · constructor <;> go_simp
  · repeat (first | exact World.grownBy.refl _ _ | refine only_drew ?_ | refine only_setCell ?_ (.inl rfl) _)
set_option maxHeartbeats 800000 in
theorem trun_fresh_pos (b : Nat) (c0 c1 c2 c3 c4 now : Int) (w : World) (h : Six w b c0 c1 c2 c3 c4 0) (h0 : (c0 == 0) = false) (hc : ¬ c1 < 0) :
    Calls Tryd.prog 115 #[.pointer (some ⟨b, 0, none⟩), .int .i64 now] w fun e w' => e = .returned (.tuple #[]) ∧ Six w' b c0 c1 (bit (decide (c1 ≤ 0))) 0 now 1 ∧ w.grownBy w' (some b) := by
  obtain ⟨k0, k1, k2, k3, k4, k5, f0, f1, f2, f3, f4, f5⟩ := h
  go_enter Tryd.func115, Tryd.ntmps115
  go_wp2
  go_end0
  go_wp2
  go_end0
  go_wp2
  go_region_with (first
    | (go_at_call 121; (with_reducible refine (get_any b 1 c1 _ (by decide) (by decide) ?_).mono ?_); go_simp; rintro e w' ⟨rfl, rfl⟩)
    | (go_at_call 122; (with_reducible refine (set_any b 3 c3 _ _ (by decide) (by decide) ?_ ?_).mono ?_); go_simp; go_simp; rintro e w' ⟨rfl, rfl⟩))
  go_wp2
  go_region_with (first
    | (go_at_call 121; (with_reducible refine (get_any b 1 c1 _ (by decide) (by decide) ?_).mono ?_); go_simp; rintro e w' ⟨rfl, rfl⟩)
    | (go_at_call 123; (with_reducible refine (flag_any _ _).mono ?_); rintro e w' ⟨rfl, rfl⟩)
    | (go_at_call 122; (with_reducible refine (set_any b 2 c2 _ _ (by decide) (by decide) ?_ ?_).mono ?_); go_simp; go_simp; rintro e w' ⟨rfl, rfl⟩))
  go_wp2
  go_end0
  refine ⟨rfl, ?_, ?_⟩
  · constructor <;> go_simp
  · repeat (first | exact World.grownBy.refl _ _ | refine only_drew ?_ | refine only_setCell ?_ (.inl rfl) _)
set_option maxHeartbeats 800000 in
theorem trun_back_neg (b : Nat) (c0 c1 c2 c3 c4 c5 now : Int) (w : World) (h : Six w b c0 c1 c2 c3 c4 c5) (h0 : (c0 == 0) = false) (h5 : (c5 == 0) = false) (hd : wrap64 (now - c4) < 0) (hc : c1 < 0) :
    Calls Tryd.prog 115 #[.pointer (some ⟨b, 0, none⟩), .int .i64 now] w fun e w' => e = .returned (.tuple #[]) ∧ Six w' b c0 c1 (bit (decide (c1 ≤ 0))) 0 c4 c5 ∧ w.grownBy w' (some b) := by
  obtain ⟨k0, k1, k2, k3, k4, k5, f0, f1, f2, f3, f4, f5⟩ := h
  go_enter Tryd.func115, Tryd.ntmps115
  go_wp2
  go_region_with (first
    | (go_at_call 121; (with_reducible refine (get_any b 1 c1 _ (by decide) (by decide) ?_).mono ?_); go_simp; rintro e w' ⟨rfl, rfl⟩)
    | (go_at_call 122; (with_reducible refine (set_any b 3 c3 _ _ (by decide) (by decide) ?_ ?_).mono ?_); go_simp; go_simp; rintro e w' ⟨rfl, rfl⟩))
  go_wp2
  go_region_with (first
    | (go_at_call 121; (with_reducible refine (get_any b 1 c1 _ (by decide) (by decide) ?_).mono ?_); go_simp; rintro e w' ⟨rfl, rfl⟩)
    | (go_at_call 123; (with_reducible refine (flag_any _ _).mono ?_); rintro e w' ⟨rfl, rfl⟩)
    | (go_at_call 122; (with_reducible refine (set_any b 2 c2 _ _ (by decide) (by decide) ?_ ?_).mono ?_); go_simp; go_simp; rintro e w' ⟨rfl, rfl⟩))
  go_wp2
  go_end0
  refine ⟨rfl, ?_, ?_⟩
  · constructor <;> go_simp
  · repeat (first | exact World.grownBy.refl _ _ | refine only_drew ?_ | refine only_setCell ?_ (.inl rfl) _)
set_option maxHeartbeats 800000 in
theorem trun_back_pos (b : Nat) (c0 c1 c2 c3 c4 c5 now : Int) (w : World) (h : Six w b c0 c1 c2 c3 c4 c5) (h0 : (c0 == 0) = false) (h5 : (c5 == 0) = false) (hd : wrap64 (now - c4) < 0) (hc : ¬ c1 < 0) :
    Calls Tryd.prog 115 #[.pointer (some ⟨b, 0, none⟩), .int .i64 now] w fun e w' => e = .returned (.tuple #[]) ∧ Six w' b c0 c1 (bit (decide (c1 ≤ 0))) 0 c4 c5 ∧ w.grownBy w' (some b) := by
  obtain ⟨k0, k1, k2, k3, k4, k5, f0, f1, f2, f3, f4, f5⟩ := h
  go_enter Tryd.func115, Tryd.ntmps115
  go_wp2
  go_region_with (first
    | (go_at_call 121; (with_reducible refine (get_any b 1 c1 _ (by decide) (by decide) ?_).mono ?_); go_simp; rintro e w' ⟨rfl, rfl⟩)
    | (go_at_call 122; (with_reducible refine (set_any b 3 c3 _ _ (by decide) (by decide) ?_ ?_).mono ?_); go_simp; go_simp; rintro e w' ⟨rfl, rfl⟩))
  go_wp2
  go_region_with (first
    | (go_at_call 121; (with_reducible refine (get_any b 1 c1 _ (by decide) (by decide) ?_).mono ?_); go_simp; rintro e w' ⟨rfl, rfl⟩)
    | (go_at_call 123; (with_reducible refine (flag_any _ _).mono ?_); rintro e w' ⟨rfl, rfl⟩)
    | (go_at_call 122; (with_reducible refine (set_any b 2 c2 _ _ (by decide) (by decide) ?_ ?_).mono ?_); go_simp; go_simp; rintro e w' ⟨rfl, rfl⟩))
  go_wp2
  go_end0
  refine ⟨rfl, ?_, ?_⟩
  · constructor <;> go_simp
  · repeat (first | exact World.grownBy.refl _ _ | refine only_drew ?_ | refine only_setCell ?_ (.inl rfl) _)
set_option maxHeartbeats 800000 in
theorem trun_less (b : Nat) (c0 c1 c2 c3 c4 c5 now : Int) (w : World) (h : Six w b c0 c1 c2 c3 c4 c5) (h0 : (c0 == 0) = false) (h5 : (c5 == 0) = false) (hd : ¬ wrap64 (now - c4) < 0) (hc : ¬ c1 < wrap64 (now - c4)) :
    Calls Tryd.prog 115 #[.pointer (some ⟨b, 0, none⟩), .int .i64 now] w fun e w' => e = .returned (.tuple #[]) ∧ Six w' b c0 c1 (bit (decide (c1 ≤ wrap64 (now - c4)))) (wrap64 (now - c4)) c4 c5 ∧ w.grownBy w' (some b) := by
  obtain ⟨k0, k1, k2, k3, k4, k5, f0, f1, f2, f3, f4, f5⟩ := h
  go_enter Tryd.func115, Tryd.ntmps115
  go_wp2
  go_region_with (first
    | (go_at_call 121; (with_reducible refine (get_any b 1 c1 _ (by decide) (by decide) ?_).mono ?_); go_simp; rintro e w' ⟨rfl, rfl⟩)
    | (go_at_call 122; (with_reducible refine (set_any b 3 c3 _ _ (by decide) (by decide) ?_ ?_).mono ?_); go_simp; go_simp; rintro e w' ⟨rfl, rfl⟩))
  go_wp2
  go_region_with (first
    | (go_at_call 121; (with_reducible refine (get_any b 1 c1 _ (by decide) (by decide) ?_).mono ?_); go_simp; rintro e w' ⟨rfl, rfl⟩)
    | (go_at_call 123; (with_reducible refine (flag_any _ _).mono ?_); rintro e w' ⟨rfl, rfl⟩)
    | (go_at_call 122; (with_reducible refine (set_any b 2 c2 _ _ (by decide) (by decide) ?_ ?_).mono ?_); go_simp; go_simp; rintro e w' ⟨rfl, rfl⟩))
  go_wp2
  go_end0
  refine ⟨rfl, ?_, ?_⟩
  · constructor <;> go_simp
  · repeat (first | exact World.grownBy.refl _ _ | refine only_drew ?_ | refine only_setCell ?_ (.inl rfl) _)
set_option maxHeartbeats 800000 in
theorem trun_more_neg (b : Nat) (c0 c1 c2 c3 c4 c5 now : Int) (w : World) (h : Six w b c0 c1 c2 c3 c4 c5) (h0 : (c0 == 0) = false) (h5 : (c5 == 0) = false) (hd : ¬ wrap64 (now - c4) < 0) (hc : c1 < wrap64 (now - c4)) (hn : c1 < 0) :
    Calls Tryd.prog 115 #[.pointer (some ⟨b, 0, none⟩), .int .i64 now] w fun e w' => e = .returned (.tuple #[]) ∧ Six w' b c0 c1 (bit (decide (c1 ≤ wrap64 (now - c4)))) 0 c4 c5 ∧ w.grownBy w' (some b) := by
  obtain ⟨k0, k1, k2, k3, k4, k5, f0, f1, f2, f3, f4, f5⟩ := h
  go_enter Tryd.func115, Tryd.ntmps115
  go_wp2
  go_region_with (first
    | (go_at_call 121; (with_reducible refine (get_any b 1 c1 _ (by decide) (by decide) ?_).mono ?_); go_simp; rintro e w' ⟨rfl, rfl⟩)
    | (go_at_call 122; (with_reducible refine (set_any b 3 c3 _ _ (by decide) (by decide) ?_ ?_).mono ?_); go_simp; go_simp; rintro e w' ⟨rfl, rfl⟩))
  go_wp2
  go_region_with (first
    | (go_at_call 121; (with_reducible refine (get_any b 1 c1 _ (by decide) (by decide) ?_).mono ?_); go_simp; rintro e w' ⟨rfl, rfl⟩)
    | (go_at_call 123; (with_reducible refine (flag_any _ _).mono ?_); rintro e w' ⟨rfl, rfl⟩)
    | (go_at_call 122; (with_reducible refine (set_any b 2 c2 _ _ (by decide) (by decide) ?_ ?_).mono ?_); go_simp; go_simp; rintro e w' ⟨rfl, rfl⟩))
  go_wp2
  go_end0
  refine ⟨rfl, ?_, ?_⟩
  · constructor <;> go_simp
  · repeat (first | exact World.grownBy.refl _ _ | refine only_drew ?_ | refine only_setCell ?_ (.inl rfl) _)
set_option maxHeartbeats 800000 in
theorem trun_more_pos (b : Nat) (c0 c1 c2 c3 c4 c5 now : Int) (w : World) (h : Six w b c0 c1 c2 c3 c4 c5) (h0 : (c0 == 0) = false) (h5 : (c5 == 0) = false) (hd : ¬ wrap64 (now - c4) < 0) (hc : c1 < wrap64 (now - c4)) (hn : ¬ c1 < 0) :
    Calls Tryd.prog 115 #[.pointer (some ⟨b, 0, none⟩), .int .i64 now] w fun e w' => e = .returned (.tuple #[]) ∧ Six w' b c0 c1 (bit (decide (c1 ≤ wrap64 (now - c4)))) c1 c4 c5 ∧ w.grownBy w' (some b) := by
  obtain ⟨k0, k1, k2, k3, k4, k5, f0, f1, f2, f3, f4, f5⟩ := h
  go_enter Tryd.func115, Tryd.ntmps115
  go_wp2
  go_region_with (first
    | (go_at_call 121; (with_reducible refine (get_any b 1 c1 _ (by decide) (by decide) ?_).mono ?_); go_simp; rintro e w' ⟨rfl, rfl⟩)
    | (go_at_call 122; (with_reducible refine (set_any b 3 c3 _ _ (by decide) (by decide) ?_ ?_).mono ?_); go_simp; go_simp; rintro e w' ⟨rfl, rfl⟩))
  go_wp2
  go_region_with (first
    | (go_at_call 121; (with_reducible refine (get_any b 1 c1 _ (by decide) (by decide) ?_).mono ?_); go_simp; rintro e w' ⟨rfl, rfl⟩)
    | (go_at_call 123; (with_reducible refine (flag_any _ _).mono ?_); rintro e w' ⟨rfl, rfl⟩)
    | (go_at_call 122; (with_reducible refine (set_any b 2 c2 _ _ (by decide) (by decide) ?_ ?_).mono ?_); go_simp; go_simp; rintro e w' ⟨rfl, rfl⟩))
  go_wp2
  go_end0
  refine ⟨rfl, ?_, ?_⟩
  · constructor <;> go_simp
  · repeat (first | exact World.grownBy.refl _ _ | refine only_drew ?_ | refine only_setCell ?_ (.inl rfl) _)
end Go.Proofs.YtngobbbinacomaaDoor.c13
/- Chapter 13: Ctu and Ton, the program's and the document's, as what they make of six numbers. -/
namespace Go.Proofs.YtngobbbinacomaaDoor.c13
open Go.Proofs.YtngobbbinacomaaDoor
open Go.RowKit
set_option linter.unusedVariables false
/-- The counter's count behind a run. -/
def ctuV (c0 c1 c4 c5 : Int) : Int := if c1 = 1 then 0 else if c0 = 1 ∧ c5 = 0 ∧ c4 < 2147483647 then IntKind.i64.wrap (c4 + 1) else c4
theorem crun_any (b : Nat) (c0 c1 c2 c3 c4 c5 : Int) (w : World) (h : Six w b c0 c1 c2 c3 c4 c5) :
    Calls Tryd.prog 116 #[.pointer (some ⟨b, 0, none⟩)] w fun e w' => e = .returned (.tuple #[]) ∧
      Six w' b c0 c1 c2 (bit (decide (c2 ≤ ctuV c0 c1 c4 c5))) (ctuV c0 c1 c4 c5) c0 ∧ w.grownBy w' (some b) := by
  by_cases h1 : c1 = 1
  · subst h1
    have e : ctuV c0 1 c4 c5 = 0 := by simp [ctuV]
    rw [e]
    exact crun_reset b c0 c2 c3 c4 c5 w h
  · have h1' : (c1 == 1) = false := by simpa using h1
    by_cases h0 : c0 = 1
    · subst h0
      by_cases h5 : c5 = 0
      · subst h5
        by_cases h4 : c4 < 2147483647
        · have e : ctuV 1 c1 c4 0 = IntKind.i64.wrap (c4 + 1) := by simp [ctuV, h1, h4]
          rw [e]
          exact crun_count b c1 c2 c3 c4 w h h1' h4
        · have e : ctuV 1 c1 c4 0 = c4 := by simp [ctuV, h1, h4]
          rw [e]
          exact crun_top b c1 c2 c3 c4 w h h1' h4
      · have e : ctuV 1 c1 c4 c5 = c4 := by simp [ctuV, h1, h5]
        rw [e]
        exact crun_held b c1 c2 c3 c4 c5 w h h1' (by simpa using h5)
    · have e : ctuV c0 c1 c4 c5 = c4 := by simp [ctuV, h1, h0]
      rw [e]
      exact crun_low b c0 c1 c2 c3 c4 c5 w h h1' (by simpa using h0)
theorem Six.other {w w1 : World} {b b' : Nat} {c0 c1 c2 c3 c4 c5 : Int} (hg : w.grownBy w1 (some b')) (hb : b < w.heap.size) (hne : b ≠ b') (h : Six w b c0 c1 c2 c3 c4 c5) : Six w1 b c0 c1 c2 c3 c4 c5 := by
  have e := hg.block b hb (by simpa using hne)
  have ec : ∀ o, w1.cell? ⟨b, o, none⟩ = w.cell? ⟨b, o, none⟩ := fun o => World.cell?_of_block (w := w) e
  have ef : ∀ o, w1.frozen? ⟨b, o, none⟩ = w.frozen? ⟨b, o, none⟩ := fun o => World.frozen?_of_block (w := w) e
  obtain ⟨k0, k1, k2, k3, k4, k5, f0, f1, f2, f3, f4, f5⟩ := h
  exact ⟨(ec _).trans k0, (ec _).trans k1, (ec _).trans k2, (ec _).trans k3, (ec _).trans k4, (ec _).trans k5, (ef _).trans f0, (ef _).trans f1, (ef _).trans f2, (ef _).trans f3, (ef _).trans f4, (ef _).trans f5⟩
set_option maxHeartbeats 800000 in
theorem ctu_any (c0 c1 c2 c3 c4 c5 : Int) (w : World) :
    Calls Tryd.prog 105 #[.agg #[.int .i64 c0, .int .i64 c1, .int .i64 c2, .int .i64 c3, .int .i64 c4, .int .i64 c5]] w fun e w' =>
      e = .returned (.agg #[.int .i64 c0, .int .i64 c1, .int .i64 c2, .int .i64 (bit (decide (c2 ≤ ctuV c0 c1 c4 c5))), .int .i64 (ctuV c0 c1 c4 c5), .int .i64 c0]) ∧ Below w.heap.size w w' := by
  by_cases hz : c0 = 0 ∧ c1 = 0 ∧ c2 = 0 ∧ c3 = 0 ∧ c4 = 0 ∧ c5 = 0
  · obtain ⟨rfl, rfl, rfl, rfl, rfl, rfl⟩ := hz
    have E : ∀ w, (Op.equalIn 10000 60 (.agg #[.int .i64 0, .int .i64 0, .int .i64 0, .int .i64 0, .int .i64 0, .int .i64 0]) (.agg #[.int .i64 0, .int .i64 0, .int .i64 0, .int .i64 0, .int .i64 0, .int .i64 0])).run Tryd.prog w = .ok true w := fun w => eq6 0 0 0 0 0 0 0 0 0 0 0 0 w
    go_enter Tryd.func105, Tryd.ntmps105
    go_wp2
    refine bodyPost_ret (v := .agg #[.int .i64 0, .int .i64 0, .int .i64 0, .int .i64 1, .int .i64 0, .int .i64 0]) (by simp [results, Tryd.results105, go_sem]) rfl ⟨rfl, ?_⟩
    exact (by repeat (first | exact Below.refl _ _ | refine Below.alloc ?_ (by simp; omega) _ | refine Below.alloc ?_ (by simp) _ | refine Below.setCell ?_ (by simp; omega) _ | refine Below.setCell ?_ (by simp) _))
  · have E : ∀ w, (Op.equalIn 10000 60 (.agg #[.int .i64 c0, .int .i64 c1, .int .i64 c2, .int .i64 c3, .int .i64 c4, .int .i64 c5]) (.agg #[.int .i64 0, .int .i64 0, .int .i64 0, .int .i64 0, .int .i64 0, .int .i64 0])).run Tryd.prog w = .ok false w := fun w => by
      rw [eq6, decide_eq_false hz]
    clear hz
    go_enter Tryd.func105, Tryd.ntmps105
    go_wp2_with fail
    refine (crun_any (w.heap.size + 1 + 1) c0 c1 c2 c3 c4 c5 _ ?_).mono ?_
    · constructor <;> go_simp
    rintro e w1 ⟨rfl, hs, hg⟩
    obtain ⟨k0, k1, k2, k3, k4, k5, f0, f1, f2, f3, f4, f5⟩ := hs
    obtain ⟨r0, r1, r2, r3, r4, r5, g0, g1, g2, g3, g4, g5⟩ : Six w1 (w.heap.size + 1) 0 0 0 0 0 0 := Six.other hg (by simp) (by simp) (by constructor <;> go_simp)
    have hb := (((((Below.refl w.heap.size w).alloc (Nat.le_refl _) _).alloc (by simp) _).alloc (by simp; omega) _).grown hg (by simp; omega) (by simp; omega))
    clear hg
    have hb := Lib.hid hb
    go_wp2
    refine bodyPost_ret (v := .agg #[.int .i64 c0, .int .i64 c1, .int .i64 c2, .int .i64 (bit (decide (c2 ≤ ctuV c0 c1 c4 c5))), .int .i64 (ctuV c0 c1 c4 c5), .int .i64 c0]) (by simp [results, Tryd.results105, go_sem, r0, r1, r2, r3, r4, r5]) rfl ⟨rfl, ?_⟩
    exact Below.setCell (Below.setCell (Below.setCell (Below.setCell (Below.setCell (Below.setCell hb.out (by simp) _) (by simp) _) (by simp) _) (by simp) _) (by simp) _) (by simp) _
end Go.Proofs.YtngobbbinacomaaDoor.c13
/- Chapter 13: Ton, and the document's Ton and Ctu, as what they make of six numbers. Printed by gen13b.py. -/
namespace Go.Proofs.YtngobbbinacomaaDoor.c13
open Go.Proofs.YtngobbbinacomaaDoor
open Go.RowKit
set_option linter.unusedVariables false
/-- How long a timer has been on; the cells behind a run. -/
def tonD (c4 c5 now : Int) : Int := if c5 = 0 then 0 else if wrap64 (now - c4) < 0 then 0 else wrap64 (now - c4)
def tonM (c1 d : Int) : Int := if c1 < d then (if c1 < 0 then 0 else c1) else (if d < 0 then 0 else d)
def tonQ (c0 c1 c4 c5 now : Int) : Int := if c0 = 0 then 0 else bit (decide (c1 ≤ tonD c4 c5 now))
def tonE (c0 c1 c4 c5 now : Int) : Int := if c0 = 0 then 0 else tonM c1 (tonD c4 c5 now)
def tonT (c0 c4 c5 now : Int) : Int := if c0 = 0 then c4 else if c5 = 0 then now else c4
def tonR (c0 c5 : Int) : Int := if c0 = 0 then 0 else if c5 = 0 then 1 else c5
theorem trun_any (b : Nat) (c0 c1 c2 c3 c4 c5 now : Int) (w : World) (h : Six w b c0 c1 c2 c3 c4 c5) :
    Calls Tryd.prog 115 #[.pointer (some ⟨b, 0, none⟩), .int .i64 now] w fun e w' => e = .returned (.tuple #[]) ∧
      Six w' b c0 c1 (tonQ c0 c1 c4 c5 now) (tonE c0 c1 c4 c5 now) (tonT c0 c4 c5 now) (tonR c0 c5) ∧ w.grownBy w' (some b) := by
  by_cases h0 : c0 = 0
  · subst h0
    have e := trun_off b c1 c2 c3 c4 c5 now w h
    simpa [tonQ, tonE, tonT, tonR] using e
  · have h0' : (c0 == 0) = false := by simpa using h0
    by_cases h5 : c5 = 0
    · subst h5
      have e1 : tonQ c0 c1 c4 0 now = bit (decide (c1 ≤ 0)) := by simp [tonQ, tonD, h0]
      have e2 : tonE c0 c1 c4 0 now = 0 := by
        by_cases hc : c1 < 0 <;> simp [tonE, tonD, tonM, h0, hc]
      have e3 : tonT c0 c4 0 now = now := by simp [tonT, h0]
      have e4 : tonR c0 0 = 1 := by simp [tonR, h0]
      rw [e1, e2, e3, e4]
      by_cases hc : c1 < 0
      · exact trun_fresh_neg b c0 c1 c2 c3 c4 now w h h0' hc
      · exact trun_fresh_pos b c0 c1 c2 c3 c4 now w h h0' hc
    · have h5' : (c5 == 0) = false := by simpa using h5
      have e3 : tonT c0 c4 c5 now = c4 := by simp [tonT, h0, h5]
      have e4 : tonR c0 c5 = c5 := by simp [tonR, h0, h5]
      rw [e3, e4]
      by_cases hd : wrap64 (now - c4) < 0
      · have e1 : tonQ c0 c1 c4 c5 now = bit (decide (c1 ≤ 0)) := by simp [tonQ, tonD, h0, h5, hd]
        have e2 : tonE c0 c1 c4 c5 now = 0 := by
          by_cases hc : c1 < 0 <;> simp [tonE, tonD, tonM, h0, h5, hd, hc]
        rw [e1, e2]
        by_cases hc : c1 < 0
        · exact trun_back_neg b c0 c1 c2 c3 c4 c5 now w h h0' h5' hd hc
        · exact trun_back_pos b c0 c1 c2 c3 c4 c5 now w h h0' h5' hd hc
      · have e1 : tonQ c0 c1 c4 c5 now = bit (decide (c1 ≤ wrap64 (now - c4))) := by simp [tonQ, tonD, h0, h5, hd]
        rw [e1]
        by_cases hc : c1 < wrap64 (now - c4)
        · by_cases hn : c1 < 0
          · have e2 : tonE c0 c1 c4 c5 now = 0 := by simp [tonE, tonD, tonM, h0, h5, hd, hc, hn]
            rw [e2]
            exact trun_more_neg b c0 c1 c2 c3 c4 c5 now w h h0' h5' hd hc hn
          · have e2 : tonE c0 c1 c4 c5 now = c1 := by simp [tonE, tonD, tonM, h0, h5, hd, hc, hn]
            rw [e2]
            exact trun_more_pos b c0 c1 c2 c3 c4 c5 now w h h0' h5' hd hc hn
        · have e2 : tonE c0 c1 c4 c5 now = wrap64 (now - c4) := by simp [tonE, tonD, tonM, h0, h5, hd, hc]
          rw [e2]
          exact trun_less b c0 c1 c2 c3 c4 c5 now w h h0' h5' hd hc
set_option maxHeartbeats 800000 in
theorem ton_any (c0 c1 c2 c3 c4 c5 now : Int) (w : World) :
    Calls Tryd.prog 104 #[.agg #[.int .i64 c0, .int .i64 c1, .int .i64 c2, .int .i64 c3, .int .i64 c4, .int .i64 c5], .int .i64 now] w fun e w' =>
      e = .returned (.agg #[.int .i64 c0, .int .i64 c1, .int .i64 (tonQ c0 c1 c4 c5 now), .int .i64 (tonE c0 c1 c4 c5 now), .int .i64 (tonT c0 c4 c5 now), .int .i64 (tonR c0 c5)]) ∧ Below w.heap.size w w' := by
  go_enter Tryd.func104, Tryd.ntmps104
  go_wp2_with fail
  refine (trun_any (w.heap.size + 1 + 1) c0 c1 c2 c3 c4 c5 now _ ?_).mono ?_
  · constructor <;> go_simp
  rintro e w1 ⟨rfl, hs, hg⟩
  obtain ⟨k0, k1, k2, k3, k4, k5, f0, f1, f2, f3, f4, f5⟩ := hs
  obtain ⟨r0, r1, r2, r3, r4, r5, g0, g1, g2, g3, g4, g5⟩ : Six w1 (w.heap.size + 1) 0 0 0 0 0 0 := Six.other hg (by simp) (by simp) (by constructor <;> go_simp)
  have hb := (((((Below.refl w.heap.size w).alloc (Nat.le_refl _) _).alloc (by simp) _).alloc (by simp; omega) _).grown hg (by simp; omega) (by simp; omega))
  clear hg
  have hb := Lib.hid hb
  go_wp2
  refine bodyPost_ret (v := .agg #[.int .i64 c0, .int .i64 c1, .int .i64 (tonQ c0 c1 c4 c5 now), .int .i64 (tonE c0 c1 c4 c5 now), .int .i64 (tonT c0 c4 c5 now), .int .i64 (tonR c0 c5)]) (by simp [results, Tryd.results104, go_sem, r0, r1, r2, r3, r4, r5]) rfl ⟨rfl, ?_⟩
  exact Below.setCell (Below.setCell (Below.setCell (Below.setCell (Below.setCell (Below.setCell hb.out (by simp) _) (by simp) _) (by simp) _) (by simp) _) (by simp) _) (by simp) _
set_option maxHeartbeats 400000 in
theorem rton_off (c1 c2 c3 c4 c5 now : Int) (w : World) :
    Calls Tryd.prog 31 #[.agg #[.int .i64 0, .int .i64 c1, .int .i64 c2, .int .i64 c3, .int .i64 c4, .int .i64 c5], .int .i64 now] w fun e w' => e = .returned (.agg #[.int .i64 0, .int .i64 c1, .int .i64 0, .int .i64 0, .int .i64 c4, .int .i64 0]) ∧ Below w.heap.size w w' := by
  go_enter Tryd.func31, Tryd.ntmps31
  go_wp2
  refine bodyPost_ret (v := .agg #[.int .i64 0, .int .i64 c1, .int .i64 0, .int .i64 0, .int .i64 c4, .int .i64 0]) (by simp [results, Tryd.results31, go_sem]) rfl ⟨rfl, (by repeat (first | exact Below.refl _ _ | refine Below.alloc ?_ (by simp; done) _ | refine Below.alloc ?_ (by simp; omega) _))⟩
set_option maxHeartbeats 400000 in
theorem rton_fresh_neg (c0 c1 c2 c3 c4 now : Int) (w : World) (h0 : (c0 == 0) = false) (h1 : c1 < 0) :
    Calls Tryd.prog 31 #[.agg #[.int .i64 c0, .int .i64 c1, .int .i64 c2, .int .i64 c3, .int .i64 c4, .int .i64 0], .int .i64 now] w fun e w' => e = .returned (.agg #[.int .i64 c0, .int .i64 c1, .int .i64 1, .int .i64 0, .int .i64 now, .int .i64 1]) ∧ Below w.heap.size w w' := by
  go_enter Tryd.func31, Tryd.ntmps31
  go_wp2
  refine bodyPost_ret (v := .agg #[.int .i64 c0, .int .i64 c1, .int .i64 1, .int .i64 0, .int .i64 now, .int .i64 1]) (by simp [results, Tryd.results31, go_sem]) rfl ⟨rfl, (by repeat (first | exact Below.refl _ _ | refine Below.alloc ?_ (by simp; done) _ | refine Below.alloc ?_ (by simp; omega) _))⟩
set_option maxHeartbeats 400000 in
theorem rton_back_neg (c0 c1 c2 c3 c4 c5 now : Int) (w : World) (h0 : (c0 == 0) = false) (h5 : (c5 == 0) = false) (hd : wrap64 (now - c4) < 0) (h1 : c1 < 0) :
    Calls Tryd.prog 31 #[.agg #[.int .i64 c0, .int .i64 c1, .int .i64 c2, .int .i64 c3, .int .i64 c4, .int .i64 c5], .int .i64 now] w fun e w' => e = .returned (.agg #[.int .i64 c0, .int .i64 c1, .int .i64 1, .int .i64 0, .int .i64 c4, .int .i64 c5]) ∧ Below w.heap.size w w' := by
  go_enter Tryd.func31, Tryd.ntmps31
  go_wp2
  refine bodyPost_ret (v := .agg #[.int .i64 c0, .int .i64 c1, .int .i64 1, .int .i64 0, .int .i64 c4, .int .i64 c5]) (by simp [results, Tryd.results31, go_sem]) rfl ⟨rfl, (by repeat (first | exact Below.refl _ _ | refine Below.alloc ?_ (by simp; done) _ | refine Below.alloc ?_ (by simp; omega) _))⟩
set_option maxHeartbeats 400000 in
theorem rton_fresh_nil (c0 c1 c2 c3 c4 now : Int) (w : World) (h0 : (c0 == 0) = false) (h1 : ¬ c1 < 0) (h2 : c1 ≤ 0) :
    Calls Tryd.prog 31 #[.agg #[.int .i64 c0, .int .i64 c1, .int .i64 c2, .int .i64 c3, .int .i64 c4, .int .i64 0], .int .i64 now] w fun e w' => e = .returned (.agg #[.int .i64 c0, .int .i64 c1, .int .i64 1, .int .i64 0, .int .i64 now, .int .i64 1]) ∧ Below w.heap.size w w' := by
  go_enter Tryd.func31, Tryd.ntmps31
  go_wp2
  refine bodyPost_ret (v := .agg #[.int .i64 c0, .int .i64 c1, .int .i64 1, .int .i64 0, .int .i64 now, .int .i64 1]) (by simp [results, Tryd.results31, go_sem]) rfl ⟨rfl, (by repeat (first | exact Below.refl _ _ | refine Below.alloc ?_ (by simp; done) _ | refine Below.alloc ?_ (by simp; omega) _))⟩
set_option maxHeartbeats 400000 in
theorem rton_back_nil (c0 c1 c2 c3 c4 c5 now : Int) (w : World) (h0 : (c0 == 0) = false) (h5 : (c5 == 0) = false) (hd : wrap64 (now - c4) < 0) (h1 : ¬ c1 < 0) (h2 : c1 ≤ 0) :
    Calls Tryd.prog 31 #[.agg #[.int .i64 c0, .int .i64 c1, .int .i64 c2, .int .i64 c3, .int .i64 c4, .int .i64 c5], .int .i64 now] w fun e w' => e = .returned (.agg #[.int .i64 c0, .int .i64 c1, .int .i64 1, .int .i64 0, .int .i64 c4, .int .i64 c5]) ∧ Below w.heap.size w w' := by
  go_enter Tryd.func31, Tryd.ntmps31
  go_wp2
  refine bodyPost_ret (v := .agg #[.int .i64 c0, .int .i64 c1, .int .i64 1, .int .i64 0, .int .i64 c4, .int .i64 c5]) (by simp [results, Tryd.results31, go_sem]) rfl ⟨rfl, (by repeat (first | exact Below.refl _ _ | refine Below.alloc ?_ (by simp; done) _ | refine Below.alloc ?_ (by simp; omega) _))⟩
set_option maxHeartbeats 400000 in
theorem rton_fresh_pos (c0 c1 c2 c3 c4 now : Int) (w : World) (h0 : (c0 == 0) = false) (h1 : ¬ c1 < 0) (h2 : ¬ c1 ≤ 0) :
    Calls Tryd.prog 31 #[.agg #[.int .i64 c0, .int .i64 c1, .int .i64 c2, .int .i64 c3, .int .i64 c4, .int .i64 0], .int .i64 now] w fun e w' => e = .returned (.agg #[.int .i64 c0, .int .i64 c1, .int .i64 0, .int .i64 0, .int .i64 now, .int .i64 1]) ∧ Below w.heap.size w w' := by
  go_enter Tryd.func31, Tryd.ntmps31
  go_wp2
  refine bodyPost_ret (v := .agg #[.int .i64 c0, .int .i64 c1, .int .i64 0, .int .i64 0, .int .i64 now, .int .i64 1]) (by simp [results, Tryd.results31, go_sem]) rfl ⟨rfl, (by repeat (first | exact Below.refl _ _ | refine Below.alloc ?_ (by simp; done) _ | refine Below.alloc ?_ (by simp; omega) _))⟩
set_option maxHeartbeats 400000 in
theorem rton_back_pos (c0 c1 c2 c3 c4 c5 now : Int) (w : World) (h0 : (c0 == 0) = false) (h5 : (c5 == 0) = false) (hd : wrap64 (now - c4) < 0) (h1 : ¬ c1 < 0) (h2 : ¬ c1 ≤ 0) :
    Calls Tryd.prog 31 #[.agg #[.int .i64 c0, .int .i64 c1, .int .i64 c2, .int .i64 c3, .int .i64 c4, .int .i64 c5], .int .i64 now] w fun e w' => e = .returned (.agg #[.int .i64 c0, .int .i64 c1, .int .i64 0, .int .i64 0, .int .i64 c4, .int .i64 c5]) ∧ Below w.heap.size w w' := by
  go_enter Tryd.func31, Tryd.ntmps31
  go_wp2
  refine bodyPost_ret (v := .agg #[.int .i64 c0, .int .i64 c1, .int .i64 0, .int .i64 0, .int .i64 c4, .int .i64 c5]) (by simp [results, Tryd.results31, go_sem]) rfl ⟨rfl, (by repeat (first | exact Below.refl _ _ | refine Below.alloc ?_ (by simp; done) _ | refine Below.alloc ?_ (by simp; omega) _))⟩
set_option maxHeartbeats 400000 in
theorem rton_on_is (c0 c1 c2 c3 c4 c5 now : Int) (w : World) (h0 : (c0 == 0) = false) (h5 : (c5 == 0) = false) (hd : ¬ wrap64 (now - c4) < 0) (h1 : ¬ c1 < wrap64 (now - c4)) (h2 : c1 ≤ wrap64 (now - c4)) :
    Calls Tryd.prog 31 #[.agg #[.int .i64 c0, .int .i64 c1, .int .i64 c2, .int .i64 c3, .int .i64 c4, .int .i64 c5], .int .i64 now] w fun e w' => e = .returned (.agg #[.int .i64 c0, .int .i64 c1, .int .i64 1, .int .i64 (wrap64 (now - c4)), .int .i64 c4, .int .i64 c5]) ∧ Below w.heap.size w w' := by
  go_enter Tryd.func31, Tryd.ntmps31
  go_wp2
  refine bodyPost_ret (v := .agg #[.int .i64 c0, .int .i64 c1, .int .i64 1, .int .i64 (wrap64 (now - c4)), .int .i64 c4, .int .i64 c5]) (by simp [results, Tryd.results31, go_sem]) rfl ⟨rfl, (by repeat (first | exact Below.refl _ _ | refine Below.alloc ?_ (by simp; done) _ | refine Below.alloc ?_ (by simp; omega) _))⟩
set_option maxHeartbeats 400000 in
theorem rton_on_less (c0 c1 c2 c3 c4 c5 now : Int) (w : World) (h0 : (c0 == 0) = false) (h5 : (c5 == 0) = false) (hd : ¬ wrap64 (now - c4) < 0) (h1 : ¬ c1 < wrap64 (now - c4)) (h2 : ¬ c1 ≤ wrap64 (now - c4)) :
    Calls Tryd.prog 31 #[.agg #[.int .i64 c0, .int .i64 c1, .int .i64 c2, .int .i64 c3, .int .i64 c4, .int .i64 c5], .int .i64 now] w fun e w' => e = .returned (.agg #[.int .i64 c0, .int .i64 c1, .int .i64 0, .int .i64 (wrap64 (now - c4)), .int .i64 c4, .int .i64 c5]) ∧ Below w.heap.size w w' := by
  go_enter Tryd.func31, Tryd.ntmps31
  go_wp2
  refine bodyPost_ret (v := .agg #[.int .i64 c0, .int .i64 c1, .int .i64 0, .int .i64 (wrap64 (now - c4)), .int .i64 c4, .int .i64 c5]) (by simp [results, Tryd.results31, go_sem]) rfl ⟨rfl, (by repeat (first | exact Below.refl _ _ | refine Below.alloc ?_ (by simp; done) _ | refine Below.alloc ?_ (by simp; omega) _))⟩
set_option maxHeartbeats 400000 in
theorem rton_on_more_neg (c0 c1 c2 c3 c4 c5 now : Int) (w : World) (h0 : (c0 == 0) = false) (h5 : (c5 == 0) = false) (hd : ¬ wrap64 (now - c4) < 0) (h1 : c1 < wrap64 (now - c4)) (hn : c1 < 0) :
    Calls Tryd.prog 31 #[.agg #[.int .i64 c0, .int .i64 c1, .int .i64 c2, .int .i64 c3, .int .i64 c4, .int .i64 c5], .int .i64 now] w fun e w' => e = .returned (.agg #[.int .i64 c0, .int .i64 c1, .int .i64 1, .int .i64 0, .int .i64 c4, .int .i64 c5]) ∧ Below w.heap.size w w' := by
  go_enter Tryd.func31, Tryd.ntmps31
  go_wp2
  refine bodyPost_ret (v := .agg #[.int .i64 c0, .int .i64 c1, .int .i64 1, .int .i64 0, .int .i64 c4, .int .i64 c5]) (by simp [results, Tryd.results31, go_sem]) rfl ⟨rfl, (by repeat (first | exact Below.refl _ _ | refine Below.alloc ?_ (by simp; done) _ | refine Below.alloc ?_ (by simp; omega) _))⟩
set_option maxHeartbeats 400000 in
theorem rton_on_more_pos (c0 c1 c2 c3 c4 c5 now : Int) (w : World) (h0 : (c0 == 0) = false) (h5 : (c5 == 0) = false) (hd : ¬ wrap64 (now - c4) < 0) (h1 : c1 < wrap64 (now - c4)) (hn : ¬ c1 < 0) :
    Calls Tryd.prog 31 #[.agg #[.int .i64 c0, .int .i64 c1, .int .i64 c2, .int .i64 c3, .int .i64 c4, .int .i64 c5], .int .i64 now] w fun e w' => e = .returned (.agg #[.int .i64 c0, .int .i64 c1, .int .i64 1, .int .i64 c1, .int .i64 c4, .int .i64 c5]) ∧ Below w.heap.size w w' := by
  go_enter Tryd.func31, Tryd.ntmps31
  go_wp2
  refine bodyPost_ret (v := .agg #[.int .i64 c0, .int .i64 c1, .int .i64 1, .int .i64 c1, .int .i64 c4, .int .i64 c5]) (by simp [results, Tryd.results31, go_sem]) rfl ⟨rfl, (by repeat (first | exact Below.refl _ _ | refine Below.alloc ?_ (by simp; done) _ | refine Below.alloc ?_ (by simp; omega) _))⟩
set_option maxHeartbeats 400000 in
theorem rctu_reset_1 (c0 c2 c3 c4 c5 : Int) (w : World) (hq : c2 ≤ 0) :
    Calls Tryd.prog 32 #[.agg #[.int .i64 c0, .int .i64 1, .int .i64 c2, .int .i64 c3, .int .i64 c4, .int .i64 c5]] w fun e w' => e = .returned (.agg #[.int .i64 c0, .int .i64 1, .int .i64 c2, .int .i64 1, .int .i64 0, .int .i64 c0]) ∧ Below w.heap.size w w' := by
  go_enter Tryd.func32, Tryd.ntmps32
  go_wp2
  refine bodyPost_ret (v := .agg #[.int .i64 c0, .int .i64 1, .int .i64 c2, .int .i64 1, .int .i64 0, .int .i64 c0]) (by simp [results, Tryd.results32, go_sem]) rfl ⟨rfl, (by repeat (first | exact Below.refl _ _ | refine Below.alloc ?_ (by simp; done) _ | refine Below.alloc ?_ (by simp; omega) _))⟩
set_option maxHeartbeats 400000 in
theorem rctu_count_1 (c1 c2 c3 c4 : Int) (w : World) (h1 : (c1 == 1) = false) (hl : -9223372036854775808 ≤ c4) (h4 : c4 < 2147483647) (hq : c2 ≤ c4 + 1) :
    Calls Tryd.prog 32 #[.agg #[.int .i64 1, .int .i64 c1, .int .i64 c2, .int .i64 c3, .int .i64 c4, .int .i64 0]] w fun e w' => e = .returned (.agg #[.int .i64 1, .int .i64 c1, .int .i64 c2, .int .i64 1, .int .i64 (c4 + 1), .int .i64 1]) ∧ Below w.heap.size w w' := by
  go_enter Tryd.func32, Tryd.ntmps32
  go_wp2
  refine bodyPost_ret (v := .agg #[.int .i64 1, .int .i64 c1, .int .i64 c2, .int .i64 1, .int .i64 (c4 + 1), .int .i64 1]) (by simp [results, Tryd.results32, go_sem]) rfl ⟨rfl, (by repeat (first | exact Below.refl _ _ | refine Below.alloc ?_ (by simp; done) _ | refine Below.alloc ?_ (by simp; omega) _))⟩
set_option maxHeartbeats 400000 in
theorem rctu_low_1 (c0 c1 c2 c3 c4 c5 : Int) (w : World) (h1 : (c1 == 1) = false) (h0 : (c0 == 1) = false) (hq : c2 ≤ c4) :
    Calls Tryd.prog 32 #[.agg #[.int .i64 c0, .int .i64 c1, .int .i64 c2, .int .i64 c3, .int .i64 c4, .int .i64 c5]] w fun e w' => e = .returned (.agg #[.int .i64 c0, .int .i64 c1, .int .i64 c2, .int .i64 1, .int .i64 c4, .int .i64 c0]) ∧ Below w.heap.size w w' := by
  go_enter Tryd.func32, Tryd.ntmps32
  go_wp2
  refine bodyPost_ret (v := .agg #[.int .i64 c0, .int .i64 c1, .int .i64 c2, .int .i64 1, .int .i64 c4, .int .i64 c0]) (by simp [results, Tryd.results32, go_sem]) rfl ⟨rfl, (by repeat (first | exact Below.refl _ _ | refine Below.alloc ?_ (by simp; done) _ | refine Below.alloc ?_ (by simp; omega) _))⟩
set_option maxHeartbeats 400000 in
theorem rctu_held_1 (c1 c2 c3 c4 c5 : Int) (w : World) (h1 : (c1 == 1) = false) (h5 : (c5 == 0) = false) (hq : c2 ≤ c4) :
    Calls Tryd.prog 32 #[.agg #[.int .i64 1, .int .i64 c1, .int .i64 c2, .int .i64 c3, .int .i64 c4, .int .i64 c5]] w fun e w' => e = .returned (.agg #[.int .i64 1, .int .i64 c1, .int .i64 c2, .int .i64 1, .int .i64 c4, .int .i64 1]) ∧ Below w.heap.size w w' := by
  go_enter Tryd.func32, Tryd.ntmps32
  go_wp2
  refine bodyPost_ret (v := .agg #[.int .i64 1, .int .i64 c1, .int .i64 c2, .int .i64 1, .int .i64 c4, .int .i64 1]) (by simp [results, Tryd.results32, go_sem]) rfl ⟨rfl, (by repeat (first | exact Below.refl _ _ | refine Below.alloc ?_ (by simp; done) _ | refine Below.alloc ?_ (by simp; omega) _))⟩
set_option maxHeartbeats 400000 in
theorem rctu_top_1 (c1 c2 c3 c4 : Int) (w : World) (h1 : (c1 == 1) = false) (h4 : ¬ c4 < 2147483647) (hq : c2 ≤ c4) :
    Calls Tryd.prog 32 #[.agg #[.int .i64 1, .int .i64 c1, .int .i64 c2, .int .i64 c3, .int .i64 c4, .int .i64 0]] w fun e w' => e = .returned (.agg #[.int .i64 1, .int .i64 c1, .int .i64 c2, .int .i64 1, .int .i64 c4, .int .i64 1]) ∧ Below w.heap.size w w' := by
  go_enter Tryd.func32, Tryd.ntmps32
  go_wp2
  refine bodyPost_ret (v := .agg #[.int .i64 1, .int .i64 c1, .int .i64 c2, .int .i64 1, .int .i64 c4, .int .i64 1]) (by simp [results, Tryd.results32, go_sem]) rfl ⟨rfl, (by repeat (first | exact Below.refl _ _ | refine Below.alloc ?_ (by simp; done) _ | refine Below.alloc ?_ (by simp; omega) _))⟩
set_option maxHeartbeats 400000 in
theorem rctu_reset_0 (c0 c2 c3 c4 c5 : Int) (w : World) (hq : ¬ c2 ≤ 0) :
    Calls Tryd.prog 32 #[.agg #[.int .i64 c0, .int .i64 1, .int .i64 c2, .int .i64 c3, .int .i64 c4, .int .i64 c5]] w fun e w' => e = .returned (.agg #[.int .i64 c0, .int .i64 1, .int .i64 c2, .int .i64 0, .int .i64 0, .int .i64 c0]) ∧ Below w.heap.size w w' := by
  go_enter Tryd.func32, Tryd.ntmps32
  go_wp2
  refine bodyPost_ret (v := .agg #[.int .i64 c0, .int .i64 1, .int .i64 c2, .int .i64 0, .int .i64 0, .int .i64 c0]) (by simp [results, Tryd.results32, go_sem]) rfl ⟨rfl, (by repeat (first | exact Below.refl _ _ | refine Below.alloc ?_ (by simp; done) _ | refine Below.alloc ?_ (by simp; omega) _))⟩
set_option maxHeartbeats 400000 in
theorem rctu_count_0 (c1 c2 c3 c4 : Int) (w : World) (h1 : (c1 == 1) = false) (hl : -9223372036854775808 ≤ c4) (h4 : c4 < 2147483647) (hq : ¬ c2 ≤ c4 + 1) :
    Calls Tryd.prog 32 #[.agg #[.int .i64 1, .int .i64 c1, .int .i64 c2, .int .i64 c3, .int .i64 c4, .int .i64 0]] w fun e w' => e = .returned (.agg #[.int .i64 1, .int .i64 c1, .int .i64 c2, .int .i64 0, .int .i64 (c4 + 1), .int .i64 1]) ∧ Below w.heap.size w w' := by
  go_enter Tryd.func32, Tryd.ntmps32
  go_wp2
  refine bodyPost_ret (v := .agg #[.int .i64 1, .int .i64 c1, .int .i64 c2, .int .i64 0, .int .i64 (c4 + 1), .int .i64 1]) (by simp [results, Tryd.results32, go_sem]) rfl ⟨rfl, (by repeat (first | exact Below.refl _ _ | refine Below.alloc ?_ (by simp; done) _ | refine Below.alloc ?_ (by simp; omega) _))⟩
set_option maxHeartbeats 400000 in
theorem rctu_low_0 (c0 c1 c2 c3 c4 c5 : Int) (w : World) (h1 : (c1 == 1) = false) (h0 : (c0 == 1) = false) (hq : ¬ c2 ≤ c4) :
    Calls Tryd.prog 32 #[.agg #[.int .i64 c0, .int .i64 c1, .int .i64 c2, .int .i64 c3, .int .i64 c4, .int .i64 c5]] w fun e w' => e = .returned (.agg #[.int .i64 c0, .int .i64 c1, .int .i64 c2, .int .i64 0, .int .i64 c4, .int .i64 c0]) ∧ Below w.heap.size w w' := by
  go_enter Tryd.func32, Tryd.ntmps32
  go_wp2
  refine bodyPost_ret (v := .agg #[.int .i64 c0, .int .i64 c1, .int .i64 c2, .int .i64 0, .int .i64 c4, .int .i64 c0]) (by simp [results, Tryd.results32, go_sem]) rfl ⟨rfl, (by repeat (first | exact Below.refl _ _ | refine Below.alloc ?_ (by simp; done) _ | refine Below.alloc ?_ (by simp; omega) _))⟩
set_option maxHeartbeats 400000 in
theorem rctu_held_0 (c1 c2 c3 c4 c5 : Int) (w : World) (h1 : (c1 == 1) = false) (h5 : (c5 == 0) = false) (hq : ¬ c2 ≤ c4) :
    Calls Tryd.prog 32 #[.agg #[.int .i64 1, .int .i64 c1, .int .i64 c2, .int .i64 c3, .int .i64 c4, .int .i64 c5]] w fun e w' => e = .returned (.agg #[.int .i64 1, .int .i64 c1, .int .i64 c2, .int .i64 0, .int .i64 c4, .int .i64 1]) ∧ Below w.heap.size w w' := by
  go_enter Tryd.func32, Tryd.ntmps32
  go_wp2
  refine bodyPost_ret (v := .agg #[.int .i64 1, .int .i64 c1, .int .i64 c2, .int .i64 0, .int .i64 c4, .int .i64 1]) (by simp [results, Tryd.results32, go_sem]) rfl ⟨rfl, (by repeat (first | exact Below.refl _ _ | refine Below.alloc ?_ (by simp; done) _ | refine Below.alloc ?_ (by simp; omega) _))⟩
set_option maxHeartbeats 400000 in
theorem rctu_top_0 (c1 c2 c3 c4 : Int) (w : World) (h1 : (c1 == 1) = false) (h4 : ¬ c4 < 2147483647) (hq : ¬ c2 ≤ c4) :
    Calls Tryd.prog 32 #[.agg #[.int .i64 1, .int .i64 c1, .int .i64 c2, .int .i64 c3, .int .i64 c4, .int .i64 0]] w fun e w' => e = .returned (.agg #[.int .i64 1, .int .i64 c1, .int .i64 c2, .int .i64 0, .int .i64 c4, .int .i64 1]) ∧ Below w.heap.size w w' := by
  go_enter Tryd.func32, Tryd.ntmps32
  go_wp2
  refine bodyPost_ret (v := .agg #[.int .i64 1, .int .i64 c1, .int .i64 c2, .int .i64 0, .int .i64 c4, .int .i64 1]) (by simp [results, Tryd.results32, go_sem]) rfl ⟨rfl, (by repeat (first | exact Below.refl _ _ | refine Below.alloc ?_ (by simp; done) _ | refine Below.alloc ?_ (by simp; omega) _))⟩
/-- The document's Ton makes the same. -/
theorem rton_any (c0 c1 c2 c3 c4 c5 now : Int) (w : World) :
    Calls Tryd.prog 31 #[.agg #[.int .i64 c0, .int .i64 c1, .int .i64 c2, .int .i64 c3, .int .i64 c4, .int .i64 c5], .int .i64 now] w fun e w' =>
      e = .returned (.agg #[.int .i64 c0, .int .i64 c1, .int .i64 (tonQ c0 c1 c4 c5 now), .int .i64 (tonE c0 c1 c4 c5 now), .int .i64 (tonT c0 c4 c5 now), .int .i64 (tonR c0 c5)]) ∧ Below w.heap.size w w' := by
  by_cases h0 : c0 = 0
  · subst h0
    have e := rton_off c1 c2 c3 c4 c5 now w
    simpa [tonQ, tonE, tonT, tonR] using e
  · have h0' : (c0 == 0) = false := by simpa using h0
    by_cases h5 : c5 = 0
    · subst h5
      have e2 : tonE c0 c1 c4 0 now = 0 := by
        by_cases hc : c1 < 0 <;> simp [tonE, tonD, tonM, h0, hc]
      have e3 : tonT c0 c4 0 now = now := by simp [tonT, h0]
      have e4 : tonR c0 0 = 1 := by simp [tonR, h0]
      rw [e2, e3, e4]
      by_cases hc : c1 < 0
      · have e1 : tonQ c0 c1 c4 0 now = 1 := by simp [tonQ, tonD, h0, bit]; omega
        rw [e1]
        exact rton_fresh_neg c0 c1 c2 c3 c4 now w h0' hc
      · by_cases hc' : c1 ≤ 0
        · have e1 : tonQ c0 c1 c4 0 now = 1 := by simp [tonQ, tonD, h0, bit, hc']
          rw [e1]
          exact rton_fresh_nil c0 c1 c2 c3 c4 now w h0' hc hc'
        · have e1 : tonQ c0 c1 c4 0 now = 0 := by simp [tonQ, tonD, h0, bit, hc']
          rw [e1]
          exact rton_fresh_pos c0 c1 c2 c3 c4 now w h0' hc hc'
    · have h5' : (c5 == 0) = false := by simpa using h5
      have e3 : tonT c0 c4 c5 now = c4 := by simp [tonT, h0, h5]
      have e4 : tonR c0 c5 = c5 := by simp [tonR, h0, h5]
      rw [e3, e4]
      by_cases hd : wrap64 (now - c4) < 0
      · have e2 : tonE c0 c1 c4 c5 now = 0 := by
          by_cases hc : c1 < 0 <;> simp [tonE, tonD, tonM, h0, h5, hd, hc]
        rw [e2]
        by_cases hc : c1 < 0
        · have e1 : tonQ c0 c1 c4 c5 now = 1 := by simp [tonQ, tonD, h0, h5, hd, bit]; omega
          rw [e1]
          exact rton_back_neg c0 c1 c2 c3 c4 c5 now w h0' h5' hd hc
        · by_cases hc' : c1 ≤ 0
          · have e1 : tonQ c0 c1 c4 c5 now = 1 := by simp [tonQ, tonD, h0, h5, hd, bit, hc']
            rw [e1]
            exact rton_back_nil c0 c1 c2 c3 c4 c5 now w h0' h5' hd hc hc'
          · have e1 : tonQ c0 c1 c4 c5 now = 0 := by simp [tonQ, tonD, h0, h5, hd, bit, hc']
            rw [e1]
            exact rton_back_pos c0 c1 c2 c3 c4 c5 now w h0' h5' hd hc hc'
      · by_cases hc : c1 < wrap64 (now - c4)
        · have e1 : tonQ c0 c1 c4 c5 now = 1 := by simp [tonQ, tonD, h0, h5, hd, bit]; omega
          rw [e1]
          by_cases hn : c1 < 0
          · have e2 : tonE c0 c1 c4 c5 now = 0 := by simp [tonE, tonD, tonM, h0, h5, hd, hc, hn]
            rw [e2]
            exact rton_on_more_neg c0 c1 c2 c3 c4 c5 now w h0' h5' hd hc hn
          · have e2 : tonE c0 c1 c4 c5 now = c1 := by simp [tonE, tonD, tonM, h0, h5, hd, hc, hn]
            rw [e2]
            exact rton_on_more_pos c0 c1 c2 c3 c4 c5 now w h0' h5' hd hc hn
        · have e2 : tonE c0 c1 c4 c5 now = wrap64 (now - c4) := by simp [tonE, tonD, tonM, h0, h5, hd, hc]
          rw [e2]
          by_cases hc' : c1 ≤ wrap64 (now - c4)
          · have e1 : tonQ c0 c1 c4 c5 now = 1 := by simp [tonQ, tonD, h0, h5, hd, bit, hc']
            rw [e1]
            exact rton_on_is c0 c1 c2 c3 c4 c5 now w h0' h5' hd hc hc'
          · have e1 : tonQ c0 c1 c4 c5 now = 0 := by simp [tonQ, tonD, h0, h5, hd, bit, hc']
            rw [e1]
            exact rton_on_less c0 c1 c2 c3 c4 c5 now w h0' h5' hd hc hc'
/-- The document's Ctu makes the same. -/
theorem rctu_any (c0 c1 c2 c3 c4 c5 : Int) (w : World) (hl : -9223372036854775808 ≤ c4) :
    Calls Tryd.prog 32 #[.agg #[.int .i64 c0, .int .i64 c1, .int .i64 c2, .int .i64 c3, .int .i64 c4, .int .i64 c5]] w fun e w' =>
      e = .returned (.agg #[.int .i64 c0, .int .i64 c1, .int .i64 c2, .int .i64 (bit (decide (c2 ≤ ctuV c0 c1 c4 c5))), .int .i64 (ctuV c0 c1 c4 c5), .int .i64 c0]) ∧ Below w.heap.size w w' := by
  by_cases h1 : c1 = 1
  · subst h1
    have e : ctuV c0 1 c4 c5 = 0 := by simp [ctuV]
    rw [e]
    by_cases hq : c2 ≤ 0
    · rw [show bit (decide (c2 ≤ 0)) = 1 by simp [bit, hq]]
      exact rctu_reset_1 c0 c2 c3 c4 c5 w hq
    · rw [show bit (decide (c2 ≤ 0)) = 0 by simp [bit, hq]]
      exact rctu_reset_0 c0 c2 c3 c4 c5 w hq
  · have h1' : (c1 == 1) = false := by simpa using h1
    by_cases h0 : c0 = 1
    · subst h0
      by_cases h5 : c5 = 0
      · subst h5
        by_cases h4 : c4 < 2147483647
        · have e : ctuV 1 c1 c4 0 = c4 + 1 := by simp [ctuV, h1, h4]; exact IntWalk.i64_in _ (by omega)
          rw [e]
          by_cases hq : c2 ≤ c4 + 1
          · rw [show bit (decide (c2 ≤ c4 + 1)) = 1 by simp [bit, hq]]
            exact rctu_count_1 c1 c2 c3 c4 w h1' hl h4 hq
          · rw [show bit (decide (c2 ≤ c4 + 1)) = 0 by simp [bit, hq]]
            exact rctu_count_0 c1 c2 c3 c4 w h1' hl h4 hq
        · have e : ctuV 1 c1 c4 0 = c4 := by simp [ctuV, h1, h4]
          rw [e]
          by_cases hq : c2 ≤ c4
          · rw [show bit (decide (c2 ≤ c4)) = 1 by simp [bit, hq]]
            exact rctu_top_1 c1 c2 c3 c4 w h1' h4 hq
          · rw [show bit (decide (c2 ≤ c4)) = 0 by simp [bit, hq]]
            exact rctu_top_0 c1 c2 c3 c4 w h1' h4 hq
      · have e : ctuV 1 c1 c4 c5 = c4 := by simp [ctuV, h1, h5]
        have h5' : (c5 == 0) = false := by simpa using h5
        rw [e]
        by_cases hq : c2 ≤ c4
        · rw [show bit (decide (c2 ≤ c4)) = 1 by simp [bit, hq]]
          exact rctu_held_1 c1 c2 c3 c4 c5 w h1' h5' hq
        · rw [show bit (decide (c2 ≤ c4)) = 0 by simp [bit, hq]]
          exact rctu_held_0 c1 c2 c3 c4 c5 w h1' h5' hq
    · have e : ctuV c0 c1 c4 c5 = c4 := by simp [ctuV, h1, h0]
      have h0' : (c0 == 1) = false := by simpa using h0
      rw [e]
      by_cases hq : c2 ≤ c4
      · rw [show bit (decide (c2 ≤ c4)) = 1 by simp [bit, hq]]
        exact rctu_low_1 c0 c1 c2 c3 c4 c5 w h1' h0' hq
      · rw [show bit (decide (c2 ≤ c4)) = 0 by simp [bit, hq]]
        exact rctu_low_0 c0 c1 c2 c3 c4 c5 w h1' h0' hq
end Go.Proofs.YtngobbbinacomaaDoor.c13
