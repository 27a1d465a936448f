/- Chapter 13: the walk of BlocksAll, its first half. -/
import Derived.Test.YtodjiplbecpplaaF13
import Derived.Test.YtodjiplbecpplaaFrame
import Derived.Test.YtodjiplbecpplaaWrap
import Derived.Deep.QuietTactic
import Derived.BigQuiet
import Derived.Deep.DeepCutAuto
import Derived.Deep.DrawnRows
import Derived.Deep.RegionHeld3
import Derived.Lib.Hide
namespace Go.Proofs.Ytodjiplbecpplaa
open Go.RowKit
set_option linter.unusedVariables false
set_option linter.unusedSimpArgs false
attribute [local go_sem ↓] Go.wp_at_zero Go.wp_at_succ

theorem six_below {w w1 : World} {B b : Nat} {c0 c1 c2 c3 c4 c5 : Int} (hb : Below B w w1) (h : Six w b c0 c1 c2 c3 c4 c5) (hlt : b < B) : Six w1 b c0 c1 c2 c3 c4 c5 := by
  have ec : ∀ o, w1.cell? ⟨b, o, none⟩ = w.cell? ⟨b, o, none⟩ := fun o => hb.cell (p := ⟨b, o, none⟩) hlt
  have ef : ∀ o, w1.frozen? ⟨b, o, none⟩ = w.frozen? ⟨b, o, none⟩ := fun o => hb.frozen (p := ⟨b, o, none⟩) hlt
  obtain ⟨k0, k1, k2, k3, k4, k5, f0, f1, f2, f3, f4, f5⟩ := h
  exact ⟨(ec _).trans k0, (ec _).trans k1, (ec _).trans k2, (ec _).trans k3, (ec _).trans k4, (ec _).trans k5, (ef _).trans f0, (ef _).trans f1, (ef _).trans f2, (ef _).trans f3, (ef _).trans f4, (ef _).trans f5⟩


theorem scell {w w1 : World} {B b : Nat} (hb : Below B w w1) (h : b < B) (o : Nat) : w1.cell? ⟨b, o, none⟩ = w.cell? ⟨b, o, none⟩ := hb.cell (p := ⟨b, o, none⟩) h
theorem sfroz {w w1 : World} {B b : Nat} (hb : Below B w w1) (h : b < B) (o : Nat) : w1.frozen? ⟨b, o, none⟩ = w.frozen? ⟨b, o, none⟩ := hb.frozen (p := ⟨b, o, none⟩) h

set_option maxHeartbeats 800000 in
theorem timer_at (c0 c1 c2 c3 c4 c5 : Int) (w : World) :
    Calls Try.prog 14 #[.agg #[.int .i64 c0, .int .i64 c1, .int .i64 c2, .int .i64 c3, .int .i64 c4, .int .i64 c5]] w fun e w' =>
      e = .returned (.agg #[.int .i64 (c0 % 2), .int .i64 c1, .int .i64 (c2 % 2), .int .i64 c3, .int .i64 c4, .int .i64 (c5 % 2)]) ∧ ∃ O1 O2, w' = ((w.alloc O1).alloc O2).drew := by
  go_enter Try.func14, Try.ntmps14
  go_wp2
  refine region_tail 16 (by kernel_rfl) (by kernel_rfl) ?_
  simp only [List.take_succ_cons, List.take_zero, List.drop_succ_cons, List.drop_zero]
  repeat (first | still_step | still_call (still_of (within_any _ 2 (by decide) (by decide) _)))
  refine wpStill_nil ?_
  go_wp2
  refine bodyPost_ret (v := .agg #[.int .i64 (c0 % 2), .int .i64 c1, .int .i64 (c2 % 2), .int .i64 c3, .int .i64 c4, .int .i64 (c5 % 2)]) (by simp [results, Try.results14, go_sem]) rfl ⟨rfl, ?_⟩
  exact ⟨_, _, rfl⟩

set_option maxHeartbeats 800000 in
theorem counter_at (c0 c1 c2 c3 c4 c5 : Int) (w : World) :
    Calls Try.prog 13 #[.agg #[.int .i64 c0, .int .i64 c1, .int .i64 c2, .int .i64 c3, .int .i64 c4, .int .i64 c5]] w fun e w' =>
      e = .returned (.agg #[.int .i64 (c0 % 2), .int .i64 (c1 % 2), .int .i64 (wrap32 c2), .int .i64 (c3 % 2), .int .i64 (wrap32 c4), .int .i64 (c5 % 2)]) ∧ ∃ O1 O2, w' = ((w.alloc O1).alloc O2).drew := by
  go_enter Try.func13, Try.ntmps13
  go_wp2
  refine region_tail 21 (by kernel_rfl) (by kernel_rfl) ?_
  simp only [List.take_succ_cons, List.take_zero, List.drop_succ_cons, List.drop_zero]
  repeat (first | still_step | still_call (still_of (within_any _ 2 (by decide) (by decide) _)))
  refine wpStill_nil ?_
  go_wp2
  refine bodyPost_ret (v := .agg #[.int .i64 (c0 % 2), .int .i64 (c1 % 2), .int .i64 (wrap32 c2), .int .i64 (c3 % 2), .int .i64 (wrap32 c4), .int .i64 (c5 % 2)]) (by simp [results, Try.results13, go_sem, w64_32]) rfl ⟨rfl, ?_⟩
  exact ⟨_, _, rfl⟩

theorem below_dn {B : Nat} {a w : World} (n : Nat) (h : Below B a w) : Below B a (w.drewN n) := h.trans ⟨rfl, rfl, rfl, Nat.le_refl _, fun _ _ => rfl⟩

theorem keepS {u1 W' : World} {g : Nat} {c0 c1 c2 c3 c4 c5 : Int} (hb : Below (g + 1) u1 W') (k0 : u1.cell? ⟨g, 0, none⟩ = some (.int .i64 c0)) (k1 : u1.cell? ⟨g, 1, none⟩ = some (.int .i64 c1)) (k2 : u1.cell? ⟨g, 2, none⟩ = some (.int .i64 c2)) (k3 : u1.cell? ⟨g, 3, none⟩ = some (.int .i64 c3)) (k4 : u1.cell? ⟨g, 4, none⟩ = some (.int .i64 c4)) (k5 : u1.cell? ⟨g, 5, none⟩ = some (.int .i64 c5)) :
    W'.cell? ⟨g, 0, none⟩ = some (.int .i64 c0) ∧ W'.cell? ⟨g, 1, none⟩ = some (.int .i64 c1) ∧ W'.cell? ⟨g, 2, none⟩ = some (.int .i64 c2) ∧ W'.cell? ⟨g, 3, none⟩ = some (.int .i64 c3) ∧ W'.cell? ⟨g, 4, none⟩ = some (.int .i64 c4) ∧ W'.cell? ⟨g, 5, none⟩ = some (.int .i64 c5) :=
  ⟨(scell hb (by omega) 0).trans k0, (scell hb (by omega) 1).trans k1, (scell hb (by omega) 2).trans k2, (scell hb (by omega) 3).trans k3, (scell hb (by omega) 4).trans k4, (scell hb (by omega) 5).trans k5⟩

theorem keepS2 {B : Nat} {u1 W' : World} {g h : Nat} {a0 a1 a2 a3 a4 a5 b0 b1 b2 b3 b4 b5 : Int} (hb : Below B u1 W') (hg : g < B) (hh : h < B) (k0 : u1.cell? ⟨g, 0, none⟩ = some (.int .i64 a0)) (k1 : u1.cell? ⟨g, 1, none⟩ = some (.int .i64 a1)) (k2 : u1.cell? ⟨g, 2, none⟩ = some (.int .i64 a2)) (k3 : u1.cell? ⟨g, 3, none⟩ = some (.int .i64 a3)) (k4 : u1.cell? ⟨g, 4, none⟩ = some (.int .i64 a4)) (k5 : u1.cell? ⟨g, 5, none⟩ = some (.int .i64 a5)) (l0 : u1.cell? ⟨h, 0, none⟩ = some (.int .i64 b0)) (l1 : u1.cell? ⟨h, 1, none⟩ = some (.int .i64 b1)) (l2 : u1.cell? ⟨h, 2, none⟩ = some (.int .i64 b2)) (l3 : u1.cell? ⟨h, 3, none⟩ = some (.int .i64 b3)) (l4 : u1.cell? ⟨h, 4, none⟩ = some (.int .i64 b4)) (l5 : u1.cell? ⟨h, 5, none⟩ = some (.int .i64 b5)) :
    W'.cell? ⟨g, 0, none⟩ = some (.int .i64 a0) ∧ W'.cell? ⟨g, 1, none⟩ = some (.int .i64 a1) ∧ W'.cell? ⟨g, 2, none⟩ = some (.int .i64 a2) ∧ W'.cell? ⟨g, 3, none⟩ = some (.int .i64 a3) ∧ W'.cell? ⟨g, 4, none⟩ = some (.int .i64 a4) ∧ W'.cell? ⟨g, 5, none⟩ = some (.int .i64 a5) ∧ W'.cell? ⟨h, 0, none⟩ = some (.int .i64 b0) ∧ W'.cell? ⟨h, 1, none⟩ = some (.int .i64 b1) ∧ W'.cell? ⟨h, 2, none⟩ = some (.int .i64 b2) ∧ W'.cell? ⟨h, 3, none⟩ = some (.int .i64 b3) ∧ W'.cell? ⟨h, 4, none⟩ = some (.int .i64 b4) ∧ W'.cell? ⟨h, 5, none⟩ = some (.int .i64 b5) :=
  ⟨(scell hb hg 0).trans k0, (scell hb hg 1).trans k1, (scell hb hg 2).trans k2, (scell hb hg 3).trans k3, (scell hb hg 4).trans k4, (scell hb hg 5).trans k5, (scell hb hh 0).trans l0, (scell hb hh 1).trans l1, (scell hb hh 2).trans l2, (scell hb hh 3).trans l3, (scell hb hh 4).trans l4, (scell hb hh 5).trans l5⟩

theorem keepS4 {B : Nat} {u1 W' : World} {p q g h : Nat} {a0 a1 a2 a3 a4 a5 b0 b1 b2 b3 b4 b5 c0 c1 c2 c3 c4 c5 d0 d1 d2 d3 d4 d5 : Int} (hb : Below B u1 W') (hp : p < B) (hq : q < B) (hg : g < B) (hh : h < B) (m0 : u1.cell? ⟨p, 0, none⟩ = some (.int .i64 a0)) (m1 : u1.cell? ⟨p, 1, none⟩ = some (.int .i64 a1)) (m2 : u1.cell? ⟨p, 2, none⟩ = some (.int .i64 a2)) (m3 : u1.cell? ⟨p, 3, none⟩ = some (.int .i64 a3)) (m4 : u1.cell? ⟨p, 4, none⟩ = some (.int .i64 a4)) (m5 : u1.cell? ⟨p, 5, none⟩ = some (.int .i64 a5)) (n0 : u1.cell? ⟨q, 0, none⟩ = some (.int .i64 b0)) (n1 : u1.cell? ⟨q, 1, none⟩ = some (.int .i64 b1)) (n2 : u1.cell? ⟨q, 2, none⟩ = some (.int .i64 b2)) (n3 : u1.cell? ⟨q, 3, none⟩ = some (.int .i64 b3)) (n4 : u1.cell? ⟨q, 4, none⟩ = some (.int .i64 b4)) (n5 : u1.cell? ⟨q, 5, none⟩ = some (.int .i64 b5)) (k0 : u1.cell? ⟨g, 0, none⟩ = some (.int .i64 c0)) (k1 : u1.cell? ⟨g, 1, none⟩ = some (.int .i64 c1)) (k2 : u1.cell? ⟨g, 2, none⟩ = some (.int .i64 c2)) (k3 : u1.cell? ⟨g, 3, none⟩ = some (.int .i64 c3)) (k4 : u1.cell? ⟨g, 4, none⟩ = some (.int .i64 c4)) (k5 : u1.cell? ⟨g, 5, none⟩ = some (.int .i64 c5)) (l0 : u1.cell? ⟨h, 0, none⟩ = some (.int .i64 d0)) (l1 : u1.cell? ⟨h, 1, none⟩ = some (.int .i64 d1)) (l2 : u1.cell? ⟨h, 2, none⟩ = some (.int .i64 d2)) (l3 : u1.cell? ⟨h, 3, none⟩ = some (.int .i64 d3)) (l4 : u1.cell? ⟨h, 4, none⟩ = some (.int .i64 d4)) (l5 : u1.cell? ⟨h, 5, none⟩ = some (.int .i64 d5)) :
    W'.cell? ⟨p, 0, none⟩ = some (.int .i64 a0) ∧ W'.cell? ⟨p, 1, none⟩ = some (.int .i64 a1) ∧ W'.cell? ⟨p, 2, none⟩ = some (.int .i64 a2) ∧ W'.cell? ⟨p, 3, none⟩ = some (.int .i64 a3) ∧ W'.cell? ⟨p, 4, none⟩ = some (.int .i64 a4) ∧ W'.cell? ⟨p, 5, none⟩ = some (.int .i64 a5) ∧ W'.cell? ⟨q, 0, none⟩ = some (.int .i64 b0) ∧ W'.cell? ⟨q, 1, none⟩ = some (.int .i64 b1) ∧ W'.cell? ⟨q, 2, none⟩ = some (.int .i64 b2) ∧ W'.cell? ⟨q, 3, none⟩ = some (.int .i64 b3) ∧ W'.cell? ⟨q, 4, none⟩ = some (.int .i64 b4) ∧ W'.cell? ⟨q, 5, none⟩ = some (.int .i64 b5) ∧ W'.cell? ⟨g, 0, none⟩ = some (.int .i64 c0) ∧ W'.cell? ⟨g, 1, none⟩ = some (.int .i64 c1) ∧ W'.cell? ⟨g, 2, none⟩ = some (.int .i64 c2) ∧ W'.cell? ⟨g, 3, none⟩ = some (.int .i64 c3) ∧ W'.cell? ⟨g, 4, none⟩ = some (.int .i64 c4) ∧ W'.cell? ⟨g, 5, none⟩ = some (.int .i64 c5) ∧ W'.cell? ⟨h, 0, none⟩ = some (.int .i64 d0) ∧ W'.cell? ⟨h, 1, none⟩ = some (.int .i64 d1) ∧ W'.cell? ⟨h, 2, none⟩ = some (.int .i64 d2) ∧ W'.cell? ⟨h, 3, none⟩ = some (.int .i64 d3) ∧ W'.cell? ⟨h, 4, none⟩ = some (.int .i64 d4) ∧ W'.cell? ⟨h, 5, none⟩ = some (.int .i64 d5) :=
  ⟨(scell hb hp 0).trans m0, (scell hb hp 1).trans m1, (scell hb hp 2).trans m2, (scell hb hp 3).trans m3, (scell hb hp 4).trans m4, (scell hb hp 5).trans m5, (scell hb hq 0).trans n0, (scell hb hq 1).trans n1, (scell hb hq 2).trans n2, (scell hb hq 3).trans n3, (scell hb hq 4).trans n4, (scell hb hq 5).trans n5, (scell hb hg 0).trans k0, (scell hb hg 1).trans k1, (scell hb hg 2).trans k2, (scell hb hg 3).trans k3, (scell hb hg 4).trans k4, (scell hb hg 5).trans k5, (scell hb hh 0).trans l0, (scell hb hh 1).trans l1, (scell hb hh 2).trans l2, (scell hb hh 3).trans l3, (scell hb hh 4).trans l4, (scell hb hh 5).trans l5⟩

theorem wrap_bool {n : Int} (h : n = 0 ∨ n = 1) : wrapK 1 n = n := by rcases h with rfl | rfl <;> rfl
theorem wrap_time (n : Int) : wrapK 6 n = n := by simp [wrapK]
theorem wrap_dint {n : Int} (h : -2147483648 ≤ n ∧ n ≤ 2147483647) : wrapK 5 n = n := by
  simp [wrapK, wrap32]
  omega
theorem rwrap_still {k n : Int} (h : wrapK k n = n) (w : World) : Calls Try.prog 16 #[.int .i64 k, .int .i64 n] w fun e w' => e = .returned (.int .i64 n) ∧ w' = w :=
  (rwrap_any k n w).mono fun _ _ h' => ⟨h'.1.trans (by rw [h]), h'.2.symm⟩
theorem bit_01 (b : Bool) : bit b = 0 ∨ bit b = 1 := by cases b <;> simp [bit]
theorem tonQ_01 (c0 c1 c4 c5 now : Int) : tonQ c0 c1 c4 c5 now = 0 ∨ tonQ c0 c1 c4 c5 now = 1 := by
  unfold tonQ
  split
  · exact .inl rfl
  · exact bit_01 _
theorem tonR_01 (c0 c5 : Int) (h : c5 = 0 ∨ c5 = 1) : tonR c0 c5 = 0 ∨ tonR c0 c5 = 1 := by
  unfold tonR
  split
  · exact .inl rfl
  · split
    · exact .inr rfl
    · exact h
theorem ctuV_32 (c0 c1 c4 c5 : Int) (h : -2147483648 ≤ c4 ∧ c4 ≤ 2147483647) : -2147483648 ≤ ctuV c0 c1 c4 c5 ∧ ctuV c0 c1 c4 c5 ≤ 2147483647 := by
  unfold ctuV
  split
  · omega
  · split <;> omega
theorem eq6_same (a b c d e f : Int) (w : World) : (Op.equalIn 10000 25 (.agg #[.int .i64 a, .int .i64 b, .int .i64 c, .int .i64 d, .int .i64 e, .int .i64 f]) (.agg #[.int .i64 a, .int .i64 b, .int .i64 c, .int .i64 d, .int .i64 e, .int .i64 f])).run Try.prog w = .ok true w := by
  rw [eq6]; simp


set_option maxHeartbeats 12000000 in
theorem blocksAll_core (c0 c1 c2 c3 c4 c5 a1 now : Int) (w : World)
    (NW : ∀ u, Calls Try.prog 11 #[.int .i64 a1, .int .i64 1099511627777] u fun e w' => e = .returned (.int .i64 now) ∧ u = w') :
    Calls Try.prog 5 #[.agg #[.int .i64 c0, .int .i64 c1, .int .i64 c2, .int .i64 c3, .int .i64 c4, .int .i64 c5], .int .i64 a1] w fun e w' => e = .returned (.bool true) ∧ Below w.heap.size w w' := by
  have hNW := Lib.hid NW
  clear NW
  go_enter Try.func5, Try.ntmps5
  go_wp2_with fail
  refine (known_any _).mono ?_
  rintro e u1 ⟨rfl, hb1⟩
  obtain ⟨k0, k1, k2, k3, k4, k5, f0, f1, f2, f3, f4, f5⟩ : Six u1 w.heap.size c0 c1 c2 c3 c4 c5 := six_below hb1 (by constructor <;> go_simp) (by simp)
  have HB1 := Lib.hid (((Below.refl w.heap.size w).alloc (Nat.le_refl _) _).trans (hb1.mono (by simp)))
  have hz1 : w.heap.size < u1.heap.size := by have := hb1.size; simp at this; omega
  clear hb1
  go_wp2_with fail
  refine (hNW.out _).mono ?_
  rintro e _ ⟨rfl, rfl⟩
  clear f0 f1 f2 f3 f4 f5
  have zl0 : w.heap.size < u1.heap.size := by omega
  have ze0 : w.heap.size ≤ u1.heap.size := by omega
  have zl1 : w.heap.size < u1.heap.size + 1 := by omega
  have ze1 : w.heap.size ≤ u1.heap.size + 1 := by omega
  have zl2 : w.heap.size < u1.heap.size + 1 + 1 := by omega
  have ze2 : w.heap.size ≤ u1.heap.size + 1 + 1 := by omega
  have zl3 : w.heap.size < u1.heap.size + 1 + 1 + 1 := by omega
  have ze3 : w.heap.size ≤ u1.heap.size + 1 + 1 + 1 := by omega
  have zl4 : w.heap.size < u1.heap.size + 1 + 1 + 1 + 1 := by omega
  have ze4 : w.heap.size ≤ u1.heap.size + 1 + 1 + 1 + 1 := by omega
  have zl5 : w.heap.size < u1.heap.size + 1 + 1 + 1 + 1 + 1 := by omega
  have ze5 : w.heap.size ≤ u1.heap.size + 1 + 1 + 1 + 1 + 1 := by omega
  have zl6 : w.heap.size < u1.heap.size + 1 + 1 + 1 + 1 + 1 + 1 := by omega
  have ze6 : w.heap.size ≤ u1.heap.size + 1 + 1 + 1 + 1 + 1 + 1 := by omega
  go_upto_region 4 with fail
  go_cut [5, 6] (fun v5 v6 wx => ∃ g h : Nat, v5 = .pointer (some ⟨g, 0, none⟩) ∧ v6 = .pointer (some ⟨h, 0, none⟩) ∧ g ≠ h ∧ w.heap.size < g ∧ w.heap.size < h ∧ g < wx.heap.size ∧ h < wx.heap.size ∧
    Six wx g (c0 % 2) c1 (c2 % 2) c3 c4 (c5 % 2) ∧ Six wx h (c0 % 2) (c1 % 2) (wrap32 c2) (c3 % 2) (wrap32 c4) (c5 % 2) ∧ Below w.heap.size w wx)
  case first =>
    go_region_held3 (fun w' => w'.cell? ⟨w.heap.size, 0, none⟩ = some (.int .i64 c0) ∧ w'.cell? ⟨w.heap.size, 1, none⟩ = some (.int .i64 c1) ∧ w'.cell? ⟨w.heap.size, 2, none⟩ = some (.int .i64 c2) ∧ w'.cell? ⟨w.heap.size, 3, none⟩ = some (.int .i64 c3) ∧ w'.cell? ⟨w.heap.size, 4, none⟩ = some (.int .i64 c4) ∧ w'.cell? ⟨w.heap.size, 5, none⟩ = some (.int .i64 c5)) (first | exact keepS (u1 := u1) (by repeat (first | (with_reducible exact Below.refl _ _) | (with_reducible refine Below.setCell ?_ (by first | omega | (simp; done) | (simp; omega)) _) | (with_reducible refine Below.drew ?_) | (with_reducible refine Below.alloc ?_ (by first | omega | (simp; done) | (simp; omega)) _))) k0 k1 k2 k3 k4 k5 | go_keep)
      (first | (go_at_call 14; refine (timer_at c0 c1 c2 c3 c4 c5 _).mono ?_; rintro e _ ⟨rfl, O1, O2, rfl⟩) | (go_at_call 13; refine (counter_at c0 c1 c2 c3 c4 c5 _).mono ?_; rintro e _ ⟨rfl, O3, O4, rfl⟩))
    all_goals (try go_wp2_with fail)
    all_goals go_meet
    all_goals refine ⟨_, _, rfl, rfl, by omega, by omega, by omega, (by first | (simp; done) | (simp; omega)), (by first | (simp; done) | (simp; omega)), ?_, ?_, ?_⟩
    all_goals first | (constructor <;> go_simp; done) | (repeat (first | (with_reducible exact HB1.out) | (with_reducible refine Below.setCell ?_ (by first | omega | (simp; done) | (simp; omega)) _) | (with_reducible refine Below.drew ?_) | (with_reducible refine Below.alloc ?_ (by first | omega | (simp; done) | (simp; omega)) _)))
  case rest =>
  obtain ⟨g, h, rfl, rfl, hgh, hwg, hwh, hgs, hhs, hsg, hsh, hb4⟩ := hcut
  have HB4 := Lib.hid hb4
  have hz4 := hb4.size
  clear hb4 HB1 hNW k0 k1 k2 k3 k4 k5
  clear zl0 ze0 zl1 ze1 zl2 ze2 zl3 ze3 zl4 ze4 zl5 ze5 zl6 ze6 hz1
  have hy4 : -9223372036854775808 ≤ wrap32 c4 := by unfold wrap32; omega
  have RX := Lib.hid (show (c0 % 2 = 0 ∨ c0 % 2 = 1) ∧ (c5 % 2 = 0 ∨ c5 % 2 = 1) ∧ (c1 % 2 = 0 ∨ c1 % 2 = 1) ∧ (-2147483648 ≤ wrap32 c2 ∧ wrap32 c2 ≤ 2147483647) ∧ (-2147483648 ≤ wrap32 c4 ∧ wrap32 c4 ≤ 2147483647) by unfold wrap32; omega)
  generalize c0 % 2 = x0 at *
  generalize c2 % 2 = x2 at *
  generalize c5 % 2 = x5 at *
  generalize c1 % 2 = y1 at *
  generalize c3 % 2 = y3 at *
  generalize wrap32 c2 = y2 at *
  generalize wrap32 c4 = y4 at *
  generalize hwd : wc = w4 at *
  clear hwd
  have HSG := Lib.hid hsg
  have HSH := Lib.hid hsh
  obtain ⟨k0, k1, k2, k3, k4, k5, _, _, _, _, _, _⟩ := hsg
  obtain ⟨l0, l1, l2, l3, l4, l5, _, _, _, _, _, _⟩ := hsh
  go_upto_region 5 with fail
  go_cut [7, 8] (fun v7 v8 wx => ∃ p q : Nat, v7 = .pointer (some ⟨p, 0, none⟩) ∧ v8 = .pointer (some ⟨q, 0, none⟩) ∧ p < wx.heap.size ∧ q < wx.heap.size ∧
    Six wx p x0 c1 (tonQ x0 c1 c4 x5 now) (tonE x0 c1 c4 x5 now) (tonT x0 c4 x5 now) (tonR x0 x5) ∧ Six wx q x0 y1 y2 (bit (decide (y2 ≤ ctuV x0 y1 y4 x5))) (ctuV x0 y1 y4 x5) x0 ∧ Below w4.heap.size w4 wx)
  case first =>
    go_region_held3 (fun w' => w'.cell? ⟨g, 0, none⟩ = some (.int .i64 x0) ∧ w'.cell? ⟨g, 1, none⟩ = some (.int .i64 c1) ∧ w'.cell? ⟨g, 2, none⟩ = some (.int .i64 x2) ∧ w'.cell? ⟨g, 3, none⟩ = some (.int .i64 c3) ∧ w'.cell? ⟨g, 4, none⟩ = some (.int .i64 c4) ∧ w'.cell? ⟨g, 5, none⟩ = some (.int .i64 x5) ∧ w'.cell? ⟨h, 0, none⟩ = some (.int .i64 x0) ∧ w'.cell? ⟨h, 1, none⟩ = some (.int .i64 y1) ∧ w'.cell? ⟨h, 2, none⟩ = some (.int .i64 y2) ∧ w'.cell? ⟨h, 3, none⟩ = some (.int .i64 y3) ∧ w'.cell? ⟨h, 4, none⟩ = some (.int .i64 y4) ∧ w'.cell? ⟨h, 5, none⟩ = some (.int .i64 x5)) (first | exact keepS2 (B := w4.heap.size) (u1 := w4) (by repeat (first | (with_reducible exact HB2.out) | (with_reducible exact HB3.out) | (with_reducible exact Below.refl _ _) | (with_reducible refine Below.setCell ?_ (by first | omega | (simp; done) | (simp; omega)) _) | (with_reducible refine Below.drew ?_) | (with_reducible refine Below.alloc ?_ (by first | omega | (simp; done) | (simp; omega)) _))) hgs hhs k0 k1 k2 k3 k4 k5 l0 l1 l2 l3 l4 l5)
      (first | (go_at_call 15; refine (ton_any x0 c1 x2 c3 c4 x5 now _).mono ?_; rintro e u2 ⟨rfl, hb2⟩; have z2 := hb2.size; (try simp at z2); have HB2 := Lib.hid (show Below w4.heap.size w4 u2 from Below.trans (by repeat (first | (with_reducible exact HB3.out) | (with_reducible exact Below.refl _ _) | (with_reducible refine Below.setCell ?_ (by first | omega | (simp; done) | (simp; omega)) _) | (with_reducible refine Below.drew ?_) | (with_reducible refine Below.alloc ?_ (by first | omega | (simp; done) | (simp; omega)) _))) (hb2.mono (by first | omega | (simp; done) | (simp; omega)))); (try have pz0 : w4.heap.size < u2.heap.size := by omega); (try have py0 : w4.heap.size ≤ u2.heap.size := by omega); (try have px0 : w4.heap.size < u2.heap.size + 1 := by omega); (try have pw0 : w4.heap.size ≤ u2.heap.size + 1 := by omega); (try have pv0 : ¬ u2.heap.size = w4.heap.size := by omega); (try have pu0 : ¬ w4.heap.size = u2.heap.size := by omega); (try have pz1 : w4.heap.size + 1 < u2.heap.size := by omega); (try have py1 : w4.heap.size + 1 ≤ u2.heap.size := by omega); (try have px1 : w4.heap.size + 1 < u2.heap.size + 1 := by omega); (try have pw1 : w4.heap.size + 1 ≤ u2.heap.size + 1 := by omega); (try have pv1 : ¬ u2.heap.size = w4.heap.size + 1 := by omega); (try have pu1 : ¬ w4.heap.size + 1 = u2.heap.size := by omega); (try have pz2 : u3.heap.size < u2.heap.size := by omega); (try have py2 : u3.heap.size ≤ u2.heap.size := by omega); (try have px2 : u3.heap.size < u2.heap.size + 1 := by omega); (try have pw2 : u3.heap.size ≤ u2.heap.size + 1 := by omega); (try have pv2 : ¬ u2.heap.size = u3.heap.size := by omega); (try have pu2 : ¬ u3.heap.size = u2.heap.size := by omega); (try have pz3 : u3.heap.size + 1 < u2.heap.size := by omega); (try have py3 : u3.heap.size + 1 ≤ u2.heap.size := by omega); (try have px3 : u3.heap.size + 1 < u2.heap.size + 1 := by omega); (try have pw3 : u3.heap.size + 1 ≤ u2.heap.size + 1 := by omega); (try have pv3 : ¬ u2.heap.size = u3.heap.size + 1 := by omega); (try have pu3 : ¬ u3.heap.size + 1 = u2.heap.size := by omega); (try have pc0 := scell hb2 (b := w4.heap.size) (by first | omega | (simp; done) | (simp; omega))); (try have pf0 := sfroz hb2 (b := w4.heap.size) (by first | omega | (simp; done) | (simp; omega))); (try have pc1 := scell hb2 (b := w4.heap.size + 1) (by first | omega | (simp; done) | (simp; omega))); (try have pf1 := sfroz hb2 (b := w4.heap.size + 1) (by first | omega | (simp; done) | (simp; omega))); (try have pc2 := scell hb2 (b := u3.heap.size) (by first | omega | (simp; done) | (simp; omega))); (try have pf2 := sfroz hb2 (b := u3.heap.size) (by first | omega | (simp; done) | (simp; omega))); (try have pc3 := scell hb2 (b := u3.heap.size + 1) (by first | omega | (simp; done) | (simp; omega))); (try have pf3 := sfroz hb2 (b := u3.heap.size + 1) (by first | omega | (simp; done) | (simp; omega))); clear hb2) | (go_at_call 12; refine (ctu_any x0 y1 y2 y3 y4 x5 _ hy4).mono ?_; rintro e u3 ⟨rfl, hb3⟩; have z3 := hb3.size; (try simp at z3); have HB3 := Lib.hid (show Below w4.heap.size w4 u3 from Below.trans (by repeat (first | (with_reducible exact HB2.out) | (with_reducible exact Below.refl _ _) | (with_reducible refine Below.setCell ?_ (by first | omega | (simp; done) | (simp; omega)) _) | (with_reducible refine Below.drew ?_) | (with_reducible refine Below.alloc ?_ (by first | omega | (simp; done) | (simp; omega)) _))) (hb3.mono (by first | omega | (simp; done) | (simp; omega)))); (try have qz0 : w4.heap.size < u3.heap.size := by omega); (try have qy0 : w4.heap.size ≤ u3.heap.size := by omega); (try have qx0 : w4.heap.size < u3.heap.size + 1 := by omega); (try have qw0 : w4.heap.size ≤ u3.heap.size + 1 := by omega); (try have qv0 : ¬ u3.heap.size = w4.heap.size := by omega); (try have qu0 : ¬ w4.heap.size = u3.heap.size := by omega); (try have qz1 : w4.heap.size + 1 < u3.heap.size := by omega); (try have qy1 : w4.heap.size + 1 ≤ u3.heap.size := by omega); (try have qx1 : w4.heap.size + 1 < u3.heap.size + 1 := by omega); (try have qw1 : w4.heap.size + 1 ≤ u3.heap.size + 1 := by omega); (try have qv1 : ¬ u3.heap.size = w4.heap.size + 1 := by omega); (try have qu1 : ¬ w4.heap.size + 1 = u3.heap.size := by omega); (try have qz2 : u2.heap.size < u3.heap.size := by omega); (try have qy2 : u2.heap.size ≤ u3.heap.size := by omega); (try have qx2 : u2.heap.size < u3.heap.size + 1 := by omega); (try have qw2 : u2.heap.size ≤ u3.heap.size + 1 := by omega); (try have qv2 : ¬ u3.heap.size = u2.heap.size := by omega); (try have qu2 : ¬ u2.heap.size = u3.heap.size := by omega); (try have qz3 : u2.heap.size + 1 < u3.heap.size := by omega); (try have qy3 : u2.heap.size + 1 ≤ u3.heap.size := by omega); (try have qx3 : u2.heap.size + 1 < u3.heap.size + 1 := by omega); (try have qw3 : u2.heap.size + 1 ≤ u3.heap.size + 1 := by omega); (try have qv3 : ¬ u3.heap.size = u2.heap.size + 1 := by omega); (try have qu3 : ¬ u2.heap.size + 1 = u3.heap.size := by omega); (try have qc0 := scell hb3 (b := w4.heap.size) (by first | omega | (simp; done) | (simp; omega))); (try have qf0 := sfroz hb3 (b := w4.heap.size) (by first | omega | (simp; done) | (simp; omega))); (try have qc1 := scell hb3 (b := w4.heap.size + 1) (by first | omega | (simp; done) | (simp; omega))); (try have qf1 := sfroz hb3 (b := w4.heap.size + 1) (by first | omega | (simp; done) | (simp; omega))); (try have qc2 := scell hb3 (b := u2.heap.size) (by first | omega | (simp; done) | (simp; omega))); (try have qf2 := sfroz hb3 (b := u2.heap.size) (by first | omega | (simp; done) | (simp; omega))); (try have qc3 := scell hb3 (b := u2.heap.size + 1) (by first | omega | (simp; done) | (simp; omega))); (try have qf3 := sfroz hb3 (b := u2.heap.size + 1) (by first | omega | (simp; done) | (simp; omega))); clear hb3))
    all_goals (try go_wp2_with fail)
    all_goals go_meet
    all_goals refine ⟨_, _, rfl, rfl, (by first | omega | (simp; done) | (simp; omega)), (by first | omega | (simp; done) | (simp; omega)), ?_, ?_, ?_⟩
    all_goals first | (constructor <;> go_simp; done) | (repeat (first | (with_reducible exact HB2.out) | (with_reducible exact HB3.out) | (with_reducible exact Below.refl _ _) | (with_reducible refine Below.setCell ?_ (by first | omega | (simp; done) | (simp; omega)) _) | (with_reducible refine Below.drew ?_) | (with_reducible refine Below.alloc ?_ (by first | omega | (simp; done) | (simp; omega)) _)))
  case rest =>
  obtain ⟨p, q, rfl, rfl, hps, hqs, hsp, hsq, hb5⟩ := hcut
  generalize hwd : wc = w5 at *
  clear hwd k0 k1 k2 k3 k4 k5 l0 l1 l2 l3 l4 l5
  obtain ⟨k0, k1, k2, k3, k4, k5, _, _, _, _, _, _⟩ := six_below hb5 HSG.out hgs
  obtain ⟨l0, l1, l2, l3, l4, l5, _, _, _, _, _, _⟩ := six_below hb5 HSH.out hhs
  obtain ⟨m0, m1, m2, m3, m4, m5, _, _, _, _, _, _⟩ := hsp
  obtain ⟨n0, n1, n2, n3, n4, n5, _, _, _, _, _, _⟩ := hsq
  have hz5 := hb5.size
  have HB5 := Lib.hid (HB4.out.trans (hb5.mono hz4))
  have hgs5 : g < w5.heap.size := by omega
  have hhs5 : h < w5.heap.size := by omega
  obtain ⟨r0, r5, r1, r2, r4⟩ := RX.out
  have K1 := fun u => rton_any x0 c1 x2 c3 c4 x5 now u
  have K2 := fun u => rctu_any x0 y1 y2 y3 y4 x5 u hy4
  have hm0 := wrap_bool r0
  have hm1 := wrap_time c1
  have hm2 := wrap_bool (tonQ_01 x0 c1 c4 x5 now)
  have hm3 := wrap_time (tonE x0 c1 c4 x5 now)
  have hm4 := wrap_time (tonT x0 c4 x5 now)
  have hm5 := wrap_bool (tonR_01 x0 x5 r5)
  have hn0 := wrap_bool r0
  have hn1 := wrap_bool r1
  have hn2 := wrap_dint r2
  have hn3 := wrap_bool (bit_01 (decide (y2 ≤ ctuV x0 y1 y4 x5)))
  have hn4 := wrap_dint (ctuV_32 x0 y1 y4 x5 r4)
  have hn5 := wrap_bool r0
  generalize tonQ x0 c1 c4 x5 now = tq at *
  generalize tonE x0 c1 c4 x5 now = te at *
  generalize tonT x0 c4 x5 now = tt at *
  generalize tonR x0 x5 = tr at *
  generalize bit (decide (y2 ≤ ctuV x0 y1 y4 x5)) = bq at *
  generalize ctuV x0 y1 y4 x5 = v at *
  have HK1 := Lib.hid K1
  have HK2 := Lib.hid K2
  clear K1 K2 r0 r5 r1 r2 r4 RX hb5 HSG HSH HB4 hgs hhs hgh hwg hwh hy4
  have HM := Lib.hid (And.intro hm0 (And.intro hm1 (And.intro hm2 (And.intro hm3 (And.intro hm4 (And.intro hm5 (And.intro hn0 (And.intro hn1 (And.intro hn2 (And.intro hn3 (And.intro hn4 hn5)))))))))))
  clear hm0 hm1 hm2 hm3 hm4 hm5 hn0 hn1 hn2 hn3 hn4 hn5
  go_wp2_with fail
  go_loopw [9] (fun i wr => ∃ k : Nat, k ≤ 6 ∧ i = .int .i64 k ∧ Below w5.heap.size w5 wr) (fun i _ => 6 - (intOf i).toNat)
  case atStart => exact ⟨0, by omega, rfl, Below.refl _ _⟩
  case round =>
    obtain ⟨k, hk, rfl, hb⟩ := hrel
    have HB := Lib.hid hb
    have hzr := hb.size
    have hpr : p < wr.heap.size := by omega
    have hqr : q < wr.heap.size := by omega
    clear hb
    by_cases hlt : k < 6
    · obtain ⟨hm0, hm1, hm2, hm3, hm4, hm5, hn0, hn1, hn2, hn3, hn4, hn5⟩ := HM.out
      rcases (show k = 0 ∨ k = 1 ∨ k = 2 ∨ k = 3 ∨ k = 4 ∨ k = 5 by omega) with rfl | rfl | rfl | rfl | rfl | rfl
      · have HA := Lib.hid hm0
        have HBq := Lib.hid hn0
        have pc := (scell HB.out hps 0).trans m0
        have qc := (scell HB.out hqs 0).trans n0
        simp only [show ((0 : Nat) : Int) = 0 from rfl]
        go_upto_region 11 with fail
        go_quiet ((go_at_call 16; refine Calls.quiet_of_same ((rwrap_any _ _ _).mono fun _ _ h => ⟨h.1, h.2.symm⟩)))
        go_wp2
        go_roundw
        case rel => exact ⟨1, by omega, by first | rfl | go_num, by repeat (first | (with_reducible exact HB.out) | (with_reducible refine below_dn _ ?_) | (with_reducible refine Below.alloc ?_ (by first | omega | (simp; done) | (simp; omega)) _))⟩
        case measure => simp [intOf]
      · have HA := Lib.hid hm1
        have HBq := Lib.hid hn1
        have pc := (scell HB.out hps 1).trans m1
        have qc := (scell HB.out hqs 1).trans n1
        simp only [show ((1 : Nat) : Int) = 1 from rfl]
        go_upto_region 11 with fail
        go_quiet ((go_at_call 16; refine Calls.quiet_of_same ((rwrap_any _ _ _).mono fun _ _ h => ⟨h.1, h.2.symm⟩)))
        go_wp2
        go_roundw
        case rel => exact ⟨2, by omega, by first | rfl | go_num, by repeat (first | (with_reducible exact HB.out) | (with_reducible refine below_dn _ ?_) | (with_reducible refine Below.alloc ?_ (by first | omega | (simp; done) | (simp; omega)) _))⟩
        case measure => simp [intOf]
      · have HA := Lib.hid hm2
        have HBq := Lib.hid hn2
        have pc := (scell HB.out hps 2).trans m2
        have qc := (scell HB.out hqs 2).trans n2
        simp only [show ((2 : Nat) : Int) = 2 from rfl]
        go_upto_region 11 with fail
        go_quiet ((go_at_call 16; refine Calls.quiet_of_same ((rwrap_any _ _ _).mono fun _ _ h => ⟨h.1, h.2.symm⟩)))
        go_wp2
        go_roundw
        case rel => exact ⟨3, by omega, by first | rfl | go_num, by repeat (first | (with_reducible exact HB.out) | (with_reducible refine below_dn _ ?_) | (with_reducible refine Below.alloc ?_ (by first | omega | (simp; done) | (simp; omega)) _))⟩
        case measure => simp [intOf]
      · have HA := Lib.hid hm3
        have HBq := Lib.hid hn3
        have pc := (scell HB.out hps 3).trans m3
        have qc := (scell HB.out hqs 3).trans n3
        simp only [show ((3 : Nat) : Int) = 3 from rfl]
        go_upto_region 11 with fail
        go_quiet ((go_at_call 16; refine Calls.quiet_of_same ((rwrap_any _ _ _).mono fun _ _ h => ⟨h.1, h.2.symm⟩)))
        go_wp2
        go_roundw
        case rel => exact ⟨4, by omega, by first | rfl | go_num, by repeat (first | (with_reducible exact HB.out) | (with_reducible refine below_dn _ ?_) | (with_reducible refine Below.alloc ?_ (by first | omega | (simp; done) | (simp; omega)) _))⟩
        case measure => simp [intOf]
      · have HA := Lib.hid hm4
        have HBq := Lib.hid hn4
        have pc := (scell HB.out hps 4).trans m4
        have qc := (scell HB.out hqs 4).trans n4
        simp only [show ((4 : Nat) : Int) = 4 from rfl]
        go_upto_region 11 with fail
        go_quiet ((go_at_call 16; refine Calls.quiet_of_same ((rwrap_any _ _ _).mono fun _ _ h => ⟨h.1, h.2.symm⟩)))
        go_wp2
        go_roundw
        case rel => exact ⟨5, by omega, by first | rfl | go_num, by repeat (first | (with_reducible exact HB.out) | (with_reducible refine below_dn _ ?_) | (with_reducible refine Below.alloc ?_ (by first | omega | (simp; done) | (simp; omega)) _))⟩
        case measure => simp [intOf]
      · have HA := Lib.hid hm5
        have HBq := Lib.hid hn5
        have pc := (scell HB.out hps 5).trans m5
        have qc := (scell HB.out hqs 5).trans n5
        simp only [show ((5 : Nat) : Int) = 5 from rfl]
        go_upto_region 11 with fail
        go_quiet ((go_at_call 16; refine Calls.quiet_of_same ((rwrap_any _ _ _).mono fun _ _ h => ⟨h.1, h.2.symm⟩)))
        go_wp2
        go_roundw
        case rel => exact ⟨6, by omega, by first | rfl | go_num, by repeat (first | (with_reducible exact HB.out) | (with_reducible refine below_dn _ ?_) | (with_reducible refine Below.alloc ?_ (by first | omega | (simp; done) | (simp; omega)) _))⟩
        case measure => simp [intOf]
    · have hk6 : k = 6 := by omega
      subst hk6
      clear hlt
      have hge : ¬ ((6 : Nat) : Int) < 6 := by omega
      have E1 := eq6_same x0 c1 tq te tt tr
      have E2 := eq6_same x0 y1 y2 bq v x0
      obtain ⟨M0, M1, M2, M3, M4, M5, N0, N1, N2, N3, N4, N5, K0, K1, K2, K3, K4, K5, L0, L1, L2, L3, L4, L5⟩ := keepS4 HB.out hps hqs hgs5 hhs5 m0 m1 m2 m3 m4 m5 n0 n1 n2 n3 n4 n5 k0 k1 k2 k3 k4 k5 l0 l1 l2 l3 l4 l5
      clear m0 m1 m2 m3 m4 m5 n0 n1 n2 n3 n4 n5 k0 k1 k2 k3 k4 k5 l0 l1 l2 l3 l4 l5
      go_upto_region 13 with fail
      go_region_held3 (fun w' => w'.cell? ⟨p, 0, none⟩ = some (.int .i64 x0) ∧ w'.cell? ⟨p, 1, none⟩ = some (.int .i64 c1) ∧ w'.cell? ⟨p, 2, none⟩ = some (.int .i64 tq) ∧ w'.cell? ⟨p, 3, none⟩ = some (.int .i64 te) ∧ w'.cell? ⟨p, 4, none⟩ = some (.int .i64 tt) ∧ w'.cell? ⟨p, 5, none⟩ = some (.int .i64 tr) ∧ w'.cell? ⟨q, 0, none⟩ = some (.int .i64 x0) ∧ w'.cell? ⟨q, 1, none⟩ = some (.int .i64 y1) ∧ w'.cell? ⟨q, 2, none⟩ = some (.int .i64 y2) ∧ w'.cell? ⟨q, 3, none⟩ = some (.int .i64 bq) ∧ w'.cell? ⟨q, 4, none⟩ = some (.int .i64 v) ∧ w'.cell? ⟨q, 5, none⟩ = some (.int .i64 x0) ∧ w'.cell? ⟨g, 0, none⟩ = some (.int .i64 x0) ∧ w'.cell? ⟨g, 1, none⟩ = some (.int .i64 c1) ∧ w'.cell? ⟨g, 2, none⟩ = some (.int .i64 x2) ∧ w'.cell? ⟨g, 3, none⟩ = some (.int .i64 c3) ∧ w'.cell? ⟨g, 4, none⟩ = some (.int .i64 c4) ∧ w'.cell? ⟨g, 5, none⟩ = some (.int .i64 x5) ∧ w'.cell? ⟨h, 0, none⟩ = some (.int .i64 x0) ∧ w'.cell? ⟨h, 1, none⟩ = some (.int .i64 y1) ∧ w'.cell? ⟨h, 2, none⟩ = some (.int .i64 y2) ∧ w'.cell? ⟨h, 3, none⟩ = some (.int .i64 y3) ∧ w'.cell? ⟨h, 4, none⟩ = some (.int .i64 y4) ∧ w'.cell? ⟨h, 5, none⟩ = some (.int .i64 x5)) (first | exact keepS4 (B := w5.heap.size) (u1 := wr) (by repeat (first | (with_reducible exact HB7.out) | (with_reducible exact HB6.out) | (with_reducible exact Below.refl _ _) | (with_reducible refine Below.drew ?_) | (with_reducible refine Below.alloc ?_ (by first | omega | (simp; done) | (simp; omega)) _))) hps hqs hgs5 hhs5 M0 M1 M2 M3 M4 M5 N0 N1 N2 N3 N4 N5 K0 K1 K2 K3 K4 K5 L0 L1 L2 L3 L4 L5)
        (first | (go_at_call 17; refine (HK1.out _).mono ?_; rintro e u6 ⟨rfl, hb6⟩; have z6 := hb6.size; have HB6 := Lib.hid (show Below w5.heap.size wr u6 from Below.trans (by repeat (first | (with_reducible exact HB7.out) | (with_reducible exact Below.refl _ _) | (with_reducible refine Below.drew ?_) | (with_reducible refine Below.alloc ?_ (by first | omega | (simp; done) | (simp; omega)) _))) (hb6.mono (by first | omega | (simp; done) | (simp; omega)))); clear hb6) | (go_at_call 18; refine (HK2.out _).mono ?_; rintro e u7 ⟨rfl, hb7⟩; have HB7 := Lib.hid (show Below w5.heap.size wr u7 from Below.trans (by repeat (first | (with_reducible exact HB6.out) | (with_reducible exact Below.refl _ _) | (with_reducible refine Below.drew ?_) | (with_reducible refine Below.alloc ?_ (by first | omega | (simp; done) | (simp; omega)) _))) (hb7.mono (by first | omega | (simp; done) | (simp; omega) | (have := HB6.out.size; omega) | (have := HB6.out.size; simp; omega)))); clear hb7))
      go_wp2
      go_ret
      exact ⟨rfl, HB5.out.trans ((HB.out.trans HB7.out).mono (by omega))⟩

theorem blocksAll_walk (c0 c1 c2 c3 c4 c5 a1 : Int) (w : World) (w0 : I64 c0) (w1 : I64 c1) (w2 : I64 c2) (w3 : I64 c3) (w4 : I64 c4) (w5 : I64 c5) (w6 : I64 a1) :
    Calls Try.prog 5 #[.agg #[.int .i64 c0, .int .i64 c1, .int .i64 c2, .int .i64 c3, .int .i64 c4, .int .i64 c5], .int .i64 a1] w fun e w' => e = .returned (.bool true) ∧ Below w.heap.size w w' :=
  blocksAll_core c0 c1 c2 c3 c4 c5 a1 (a1 % 1099511627777) w (fun u => within_any a1 1099511627777 (by decide) (by decide) u)
end Go.Proofs.Ytodjiplbecpplaa
