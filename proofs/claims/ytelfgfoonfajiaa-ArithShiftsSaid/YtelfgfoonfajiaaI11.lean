/- Chapter 11: plain laws of quotients, and the walk of ArithDivs. -/
import Derived.Test.YtelfgfoonfajiaaH11
namespace Go.Proofs.Ytelfgfoonfajiaa
open Go.RowKit
set_option linter.unusedVariables false

theorem wrapK_w64 (k z : Int) (h4 : k = 4 ∨ k = 5) : wrapK k (wrap64 z) = wrapK k z := by
  rcases h4 with rfl | rfl
  · simp [wrapK]; unfold wrap64; omega
  · simp [wrapK]; unfold wrap64 wrap32; omega

theorem wrapK_of (k z : Int) (h : (k = 4 ∧ -32768 ≤ z ∧ z ≤ 32767) ∨ (k = 5 ∧ -2147483648 ≤ z ∧ z ≤ 2147483647)) : wrapK k z = z := by
  rcases h with ⟨rfl, h1, h2⟩ | ⟨rfl, h1, h2⟩
  · simp [wrapK]; omega
  · simp [wrapK]; unfold wrap32; omega

/-- How many a kind has on either side. -/
def halfK (k : Int) : Int := if k = 4 then 32768 else 2147483648

theorem wrapK_half (k x : Int) (h : k = 4 ∨ k = 5) : -halfK k ≤ wrapK k x ∧ wrapK k x < halfK k := by
  rcases h with rfl | rfl
  · simp [wrapK, halfK]; omega
  · simp [wrapK, halfK]; unfold wrap32; omega

/-- What is left has the number's sign, and is smaller than what is divided by. -/
theorem tmod_facts (x y : Int) (hy : y ≠ 0) : (x.tmod y = 0 ∨ (x.tmod y < 0 ∧ x < 0) ∨ (0 < x.tmod y ∧ 0 < x)) ∧ (y < 0 → x.tmod y < -y ∧ y < x.tmod y) ∧ (0 < y → x.tmod y < y ∧ -y < x.tmod y) := by
  have h1 : (x.tmod y).natAbs < y.natAbs := by rw [Int.natAbs_tmod]; exact Nat.mod_lt _ (by omega)
  refine ⟨?_, by omega, by omega⟩
  rcases (show x = 0 ∨ 0 < x ∨ x < 0 by omega) with h | h | h
  · left; subst h; simp
  · have := Int.tmod_nonneg y (show 0 ≤ x by omega); omega
  · have h2 : (-x).tmod y = -(x.tmod y) := Int.neg_tmod ..
    have := Int.tmod_nonneg y (show 0 ≤ -x by omega)
    omega

theorem tdiv_facts (x y H : Int) (hy : y ≠ 0) (hx : -H ≤ x ∧ x < H) (hH : 0 < H) : (-H ≤ x.tdiv y ∧ x.tdiv y < H) ∨ (x = -H ∧ y = -1 ∧ x.tdiv y = H) := by
  have h1 : (x.tdiv y).natAbs = x.natAbs / y.natAbs := Int.natAbs_tdiv ..
  have h2 : x.natAbs / y.natAbs ≤ x.natAbs := Nat.div_le_self ..
  by_cases hm : x.tdiv y = H
  · right
    have h3 : x = -H := by omega
    refine ⟨h3, ?_, hm⟩
    have h4 : y.natAbs = 1 := by
      by_cases h5 : y.natAbs = 1
      · exact h5
      · exfalso
        have : x.natAbs / y.natAbs < x.natAbs := Nat.div_lt_self (by omega) (by omega)
        omega
    rcases (show y = 1 ∨ y = -1 by omega) with rfl | rfl
    · rw [Int.tdiv_one] at hm; omega
    · rfl
  · left; omega

/-- What is divided, and what is left, make the number again. -/
theorem divs_back (k x y : Int) (hk : k = 4 ∨ k = 5) (hx : -halfK k ≤ x ∧ x < halfK k) (hy : -halfK k ≤ y ∧ y < halfK k) (h0 : y ≠ 0) :
    wrapK k (wrap64 (wrap64 (wrapK k (wrap64 (x.tdiv y)) * y) + wrapK k (x.tmod y))) = x := by
  have hH : 0 < halfK k := by unfold halfK; split <;> omega
  have hm := tmod_facts x y h0
  have hd := tdiv_facts x y (halfK k) h0 hx hH
  have hdm : y * x.tdiv y + x.tmod y = x := Int.mul_tdiv_add_tmod x y
  have hr : wrapK k (x.tmod y) = x.tmod y := wrapK_of k _ (by rcases hk with rfl | rfl <;> simp [halfK] at * <;> omega)
  rw [hr, wrapK_w64 k _ hk, wrapK_w64 k _ hk]
  rcases hd with hd | ⟨e1, e2, e3⟩
  · have hq : wrapK k (x.tdiv y) = x.tdiv y := wrapK_of k _ (by rcases hk with rfl | rfl <;> simp [halfK] at * <;> omega)
    rw [hq, Int.mul_comm]
    have hp : y * x.tdiv y = x - x.tmod y := by omega
    rw [hp]
    have : wrap64 (x - x.tmod y) = x - x.tmod y := IntWalk.wrap64_in _ (by
      have hb : halfK k ≤ 2147483648 := by unfold halfK; split <;> omega
      rcases (show y < 0 ∨ 0 < y by omega) with h | h
      · have := hm.2.1 h; omega
      · have := hm.2.2 h; omega)
    rw [this, Int.sub_add_cancel]
    exact wrapK_of k _ (by rcases hk with rfl | rfl <;> simp [halfK] at * <;> omega)
  · subst e2
    have h3 : x.tmod (-1) = 0 := by have := hm.2.1 (by omega); omega
    rw [e3, h3]
    rcases hk with rfl | rfl
    · simp [halfK] at *
      subst e1
      have : wrapK 4 32768 = -32768 := by decide
      rw [this]
      have : wrap64 (- -32768) = 32768 := IntWalk.wrap64_in _ (by omega)
      rw [this]; decide
    · simp [halfK] at *
      subst e1
      have : wrapK 5 2147483648 = -2147483648 := by simp [wrapK]; unfold wrap32; omega
      rw [this]
      have : wrap64 (- -2147483648) = 2147483648 := IntWalk.wrap64_in _ (by omega)
      rw [this]
      simp [wrapK]; unfold wrap32; omega


set_option maxHeartbeats 4000000 in
theorem divs_0_4 (x y X : Int) (w : World)
    (hx : ∀ u, Calls Try.prog 18 #[.int .i64 4, .int .i64 x] u fun e w' => e = .returned (.int .i64 X) ∧ u = w')
    (hy : ∀ u, Calls Try.prog 18 #[.int .i64 4, .int .i64 y] u fun e w' => e = .returned (.int .i64 0) ∧ u = w')
    (hq : ∀ u, Calls Try.prog 19 #[.int .i64 10, .int .i64 4, .int .i64 4, .int .i64 X, .int .i64 0] u fun r w' => r = .returned (.tuple #[.int .i64 0, .int .i64 21]) ∧ Below u.heap.size u w')
    (hr : ∀ u, Calls Try.prog 19 #[.int .i64 11, .int .i64 4, .int .i64 4, .int .i64 X, .int .i64 0] u fun r w' => r = .returned (.tuple #[.int .i64 0, .int .i64 21]) ∧ Below u.heap.size u w') :
    Calls Try.prog 5 #[.bool false, .int .i64 x, .int .i64 y] w fun e w' => e = .returned (.bool true) ∧ Below w.heap.size w w' := by
  have HX := Lib.hid hx
  have HY := Lib.hid hy
  have HQ := Lib.hid hq
  have HR := Lib.hid hr
  clear hx hy hq hr
  go_enter Try.func5, Try.ntmps5
  go_wp2_with fail
  refine (known_any _).mono ?_
  rintro e u1 ⟨rfl, hb1⟩
  have HB1 := Lib.hid hb1
  clear hb1
  go_wp2_with fail
  refine (HX.out _).mono ?_
  rintro e _ ⟨rfl, rfl⟩
  go_wp2_with fail
  refine (HY.out _).mono ?_
  rintro e _ ⟨rfl, rfl⟩
  go_wp2_with fail
  refine (HQ.out _).mono ?_
  rintro e u2 ⟨rfl, hb2⟩
  have HB2 := Lib.hid (HB1.out.trans (hb2.mono HB1.out.size))
  clear hb2 HB1
  go_wp2_with fail
  refine (HR.out _).mono ?_
  rintro e u3 ⟨rfl, hb3⟩
  have HB3 := Lib.hid (HB2.out.trans (hb3.mono HB2.out.size))
  clear hb3 HB2
  go_wp2
  go_ret
  exact ⟨rfl, HB3.out⟩

set_option maxHeartbeats 4000000 in
theorem divs_zn_4 (x y X Y Q R : Int) (w : World)
    (hx : ∀ u, Calls Try.prog 18 #[.int .i64 4, .int .i64 x] u fun e w' => e = .returned (.int .i64 X) ∧ u = w')
    (hy : ∀ u, Calls Try.prog 18 #[.int .i64 4, .int .i64 y] u fun e w' => e = .returned (.int .i64 Y) ∧ u = w')
    (hb : ∀ u, Calls Try.prog 18 #[.int .i64 4, .int .i64 (wrap64 (wrap64 (Q * Y) + R))] u fun e w' => e = .returned (.int .i64 X) ∧ u = w')
    (hq : ∀ u, Calls Try.prog 19 #[.int .i64 10, .int .i64 4, .int .i64 4, .int .i64 X, .int .i64 Y] u fun r w' => r = .returned (.tuple #[.int .i64 Q, .int .i64 0]) ∧ Below u.heap.size u w')
    (hr : ∀ u, Calls Try.prog 19 #[.int .i64 11, .int .i64 4, .int .i64 4, .int .i64 X, .int .i64 Y] u fun r w' => r = .returned (.tuple #[.int .i64 R, .int .i64 0]) ∧ Below u.heap.size u w') (f0 : (R == 0) = true) (h1 : 0 ≤ R) (h2 : R ≤ 0) (hY : Y < 0) (fY : (Y == 0) = false) (hlo : -2147483648 ≤ Y) (d1 : decide (R < 0) = false) (d2 : decide (Y < 0) = true) (d3 : decide (0 < Y) = false) (d4 : decide (R < -Y) = true) :
    Calls Try.prog 5 #[.bool false, .int .i64 x, .int .i64 y] w fun e w' => e = .returned (.bool true) ∧ Below w.heap.size w w' := by
  have HX := Lib.hid hx
  have HY := Lib.hid hy
  have HBK := Lib.hid hb
  have HQ := Lib.hid hq
  have HR := Lib.hid hr
  clear hx hy hb hq hr
  go_enter Try.func5, Try.ntmps5
  go_wp2_with fail
  refine (known_any _).mono ?_
  rintro e u1 ⟨rfl, hb1⟩
  have HB1 := Lib.hid hb1
  clear hb1
  go_wp2_with fail
  refine (HX.out _).mono ?_
  rintro e _ ⟨rfl, rfl⟩
  go_wp2_with fail
  refine (HY.out _).mono ?_
  rintro e _ ⟨rfl, rfl⟩
  go_wp2_with fail
  refine (HQ.out _).mono ?_
  rintro e u2 ⟨rfl, hb2⟩
  have HB2 := Lib.hid (HB1.out.trans (hb2.mono HB1.out.size))
  clear hb2 HB1
  go_wp2_with fail
  refine (HR.out _).mono ?_
  rintro e u3 ⟨rfl, hb3⟩
  have HB3 := Lib.hid (HB2.out.trans (hb3.mono HB2.out.size))
  clear hb3 HB2
  go_wp2_with (go_at_call 18; refine (HBK.out _).mono ?_; rintro e _ ⟨rfl, rfl⟩)
  go_ret
  exact ⟨rfl, HB3.out⟩

set_option maxHeartbeats 4000000 in
theorem divs_zp_4 (x y X Y Q R : Int) (w : World)
    (hx : ∀ u, Calls Try.prog 18 #[.int .i64 4, .int .i64 x] u fun e w' => e = .returned (.int .i64 X) ∧ u = w')
    (hy : ∀ u, Calls Try.prog 18 #[.int .i64 4, .int .i64 y] u fun e w' => e = .returned (.int .i64 Y) ∧ u = w')
    (hb : ∀ u, Calls Try.prog 18 #[.int .i64 4, .int .i64 (wrap64 (wrap64 (Q * Y) + R))] u fun e w' => e = .returned (.int .i64 X) ∧ u = w')
    (hq : ∀ u, Calls Try.prog 19 #[.int .i64 10, .int .i64 4, .int .i64 4, .int .i64 X, .int .i64 Y] u fun r w' => r = .returned (.tuple #[.int .i64 Q, .int .i64 0]) ∧ Below u.heap.size u w')
    (hr : ∀ u, Calls Try.prog 19 #[.int .i64 11, .int .i64 4, .int .i64 4, .int .i64 X, .int .i64 Y] u fun r w' => r = .returned (.tuple #[.int .i64 R, .int .i64 0]) ∧ Below u.heap.size u w') (f0 : (R == 0) = true) (h1 : 0 ≤ R) (h2 : R ≤ 0) (hY : 0 < Y) (fY : (Y == 0) = false) (d1 : decide (R < 0) = false) (d2 : decide (Y < 0) = false) (d3 : decide (0 < Y) = true) (d5 : decide (R < Y) = true) :
    Calls Try.prog 5 #[.bool false, .int .i64 x, .int .i64 y] w fun e w' => e = .returned (.bool true) ∧ Below w.heap.size w w' := by
  have HX := Lib.hid hx
  have HY := Lib.hid hy
  have HBK := Lib.hid hb
  have HQ := Lib.hid hq
  have HR := Lib.hid hr
  clear hx hy hb hq hr
  go_enter Try.func5, Try.ntmps5
  go_wp2_with fail
  refine (known_any _).mono ?_
  rintro e u1 ⟨rfl, hb1⟩
  have HB1 := Lib.hid hb1
  clear hb1
  go_wp2_with fail
  refine (HX.out _).mono ?_
  rintro e _ ⟨rfl, rfl⟩
  go_wp2_with fail
  refine (HY.out _).mono ?_
  rintro e _ ⟨rfl, rfl⟩
  go_wp2_with fail
  refine (HQ.out _).mono ?_
  rintro e u2 ⟨rfl, hb2⟩
  have HB2 := Lib.hid (HB1.out.trans (hb2.mono HB1.out.size))
  clear hb2 HB1
  go_wp2_with fail
  refine (HR.out _).mono ?_
  rintro e u3 ⟨rfl, hb3⟩
  have HB3 := Lib.hid (HB2.out.trans (hb3.mono HB2.out.size))
  clear hb3 HB2
  go_wp2_with (go_at_call 18; refine (HBK.out _).mono ?_; rintro e _ ⟨rfl, rfl⟩)
  go_ret
  exact ⟨rfl, HB3.out⟩

set_option maxHeartbeats 4000000 in
theorem divs_n_4 (x y X Y Q R : Int) (w : World)
    (hx : ∀ u, Calls Try.prog 18 #[.int .i64 4, .int .i64 x] u fun e w' => e = .returned (.int .i64 X) ∧ u = w')
    (hy : ∀ u, Calls Try.prog 18 #[.int .i64 4, .int .i64 y] u fun e w' => e = .returned (.int .i64 Y) ∧ u = w')
    (hb : ∀ u, Calls Try.prog 18 #[.int .i64 4, .int .i64 (wrap64 (wrap64 (Q * Y) + R))] u fun e w' => e = .returned (.int .i64 X) ∧ u = w')
    (hq : ∀ u, Calls Try.prog 19 #[.int .i64 10, .int .i64 4, .int .i64 4, .int .i64 X, .int .i64 Y] u fun r w' => r = .returned (.tuple #[.int .i64 Q, .int .i64 0]) ∧ Below u.heap.size u w')
    (hr : ∀ u, Calls Try.prog 19 #[.int .i64 11, .int .i64 4, .int .i64 4, .int .i64 X, .int .i64 Y] u fun r w' => r = .returned (.tuple #[.int .i64 R, .int .i64 0]) ∧ Below u.heap.size u w') (f0 : (R == 0) = false) (h1 : R < 0) (h2 : X < 0) (fY : (Y == 0) = false) (d1 : decide (R < 0) = true) (d6 : decide (X < 0) = true) :
    Calls Try.prog 5 #[.bool false, .int .i64 x, .int .i64 y] w fun e w' => e = .returned (.bool true) ∧ Below w.heap.size w w' := by
  have HX := Lib.hid hx
  have HY := Lib.hid hy
  have HBK := Lib.hid hb
  have HQ := Lib.hid hq
  have HR := Lib.hid hr
  clear hx hy hb hq hr
  go_enter Try.func5, Try.ntmps5
  go_wp2_with fail
  refine (known_any _).mono ?_
  rintro e u1 ⟨rfl, hb1⟩
  have HB1 := Lib.hid hb1
  clear hb1
  go_wp2_with fail
  refine (HX.out _).mono ?_
  rintro e _ ⟨rfl, rfl⟩
  go_wp2_with fail
  refine (HY.out _).mono ?_
  rintro e _ ⟨rfl, rfl⟩
  go_wp2_with fail
  refine (HQ.out _).mono ?_
  rintro e u2 ⟨rfl, hb2⟩
  have HB2 := Lib.hid (HB1.out.trans (hb2.mono HB1.out.size))
  clear hb2 HB1
  go_wp2_with fail
  refine (HR.out _).mono ?_
  rintro e u3 ⟨rfl, hb3⟩
  have HB3 := Lib.hid (HB2.out.trans (hb3.mono HB2.out.size))
  clear hb3 HB2
  go_wp2_with (go_at_call 18; refine (HBK.out _).mono ?_; rintro e _ ⟨rfl, rfl⟩)
  go_ret
  exact ⟨rfl, HB3.out⟩

set_option maxHeartbeats 4000000 in
theorem divs_pn_4 (x y X Y Q R : Int) (w : World)
    (hx : ∀ u, Calls Try.prog 18 #[.int .i64 4, .int .i64 x] u fun e w' => e = .returned (.int .i64 X) ∧ u = w')
    (hy : ∀ u, Calls Try.prog 18 #[.int .i64 4, .int .i64 y] u fun e w' => e = .returned (.int .i64 Y) ∧ u = w')
    (hb : ∀ u, Calls Try.prog 18 #[.int .i64 4, .int .i64 (wrap64 (wrap64 (Q * Y) + R))] u fun e w' => e = .returned (.int .i64 X) ∧ u = w')
    (hq : ∀ u, Calls Try.prog 19 #[.int .i64 10, .int .i64 4, .int .i64 4, .int .i64 X, .int .i64 Y] u fun r w' => r = .returned (.tuple #[.int .i64 Q, .int .i64 0]) ∧ Below u.heap.size u w')
    (hr : ∀ u, Calls Try.prog 19 #[.int .i64 11, .int .i64 4, .int .i64 4, .int .i64 X, .int .i64 Y] u fun r w' => r = .returned (.tuple #[.int .i64 R, .int .i64 0]) ∧ Below u.heap.size u w') (f0 : (R == 0) = false) (h1 : 0 < R) (h2 : 0 < X) (hY : Y < 0) (hlo : -2147483648 ≤ Y) (h3 : R < -Y) (fY : (Y == 0) = false) (d1 : decide (R < 0) = false) (d2 : decide (Y < 0) = true) (d3 : decide (0 < Y) = false) (d4 : decide (R < -Y) = true) (d6 : decide (X < 0) = false) :
    Calls Try.prog 5 #[.bool false, .int .i64 x, .int .i64 y] w fun e w' => e = .returned (.bool true) ∧ Below w.heap.size w w' := by
  have HX := Lib.hid hx
  have HY := Lib.hid hy
  have HBK := Lib.hid hb
  have HQ := Lib.hid hq
  have HR := Lib.hid hr
  clear hx hy hb hq hr
  go_enter Try.func5, Try.ntmps5
  go_wp2_with fail
  refine (known_any _).mono ?_
  rintro e u1 ⟨rfl, hb1⟩
  have HB1 := Lib.hid hb1
  clear hb1
  go_wp2_with fail
  refine (HX.out _).mono ?_
  rintro e _ ⟨rfl, rfl⟩
  go_wp2_with fail
  refine (HY.out _).mono ?_
  rintro e _ ⟨rfl, rfl⟩
  go_wp2_with fail
  refine (HQ.out _).mono ?_
  rintro e u2 ⟨rfl, hb2⟩
  have HB2 := Lib.hid (HB1.out.trans (hb2.mono HB1.out.size))
  clear hb2 HB1
  go_wp2_with fail
  refine (HR.out _).mono ?_
  rintro e u3 ⟨rfl, hb3⟩
  have HB3 := Lib.hid (HB2.out.trans (hb3.mono HB2.out.size))
  clear hb3 HB2
  go_wp2_with (go_at_call 18; refine (HBK.out _).mono ?_; rintro e _ ⟨rfl, rfl⟩)
  go_ret
  exact ⟨rfl, HB3.out⟩

set_option maxHeartbeats 4000000 in
theorem divs_pp_4 (x y X Y Q R : Int) (w : World)
    (hx : ∀ u, Calls Try.prog 18 #[.int .i64 4, .int .i64 x] u fun e w' => e = .returned (.int .i64 X) ∧ u = w')
    (hy : ∀ u, Calls Try.prog 18 #[.int .i64 4, .int .i64 y] u fun e w' => e = .returned (.int .i64 Y) ∧ u = w')
    (hb : ∀ u, Calls Try.prog 18 #[.int .i64 4, .int .i64 (wrap64 (wrap64 (Q * Y) + R))] u fun e w' => e = .returned (.int .i64 X) ∧ u = w')
    (hq : ∀ u, Calls Try.prog 19 #[.int .i64 10, .int .i64 4, .int .i64 4, .int .i64 X, .int .i64 Y] u fun r w' => r = .returned (.tuple #[.int .i64 Q, .int .i64 0]) ∧ Below u.heap.size u w')
    (hr : ∀ u, Calls Try.prog 19 #[.int .i64 11, .int .i64 4, .int .i64 4, .int .i64 X, .int .i64 Y] u fun r w' => r = .returned (.tuple #[.int .i64 R, .int .i64 0]) ∧ Below u.heap.size u w') (f0 : (R == 0) = false) (h1 : 0 < R) (h2 : 0 < X) (hY : 0 < Y) (h3 : R < Y) (fY : (Y == 0) = false) (d1 : decide (R < 0) = false) (d2 : decide (Y < 0) = false) (d3 : decide (0 < Y) = true) (d5 : decide (R < Y) = true) (d6 : decide (X < 0) = false) :
    Calls Try.prog 5 #[.bool false, .int .i64 x, .int .i64 y] w fun e w' => e = .returned (.bool true) ∧ Below w.heap.size w w' := by
  have HX := Lib.hid hx
  have HY := Lib.hid hy
  have HBK := Lib.hid hb
  have HQ := Lib.hid hq
  have HR := Lib.hid hr
  clear hx hy hb hq hr
  go_enter Try.func5, Try.ntmps5
  go_wp2_with fail
  refine (known_any _).mono ?_
  rintro e u1 ⟨rfl, hb1⟩
  have HB1 := Lib.hid hb1
  clear hb1
  go_wp2_with fail
  refine (HX.out _).mono ?_
  rintro e _ ⟨rfl, rfl⟩
  go_wp2_with fail
  refine (HY.out _).mono ?_
  rintro e _ ⟨rfl, rfl⟩
  go_wp2_with fail
  refine (HQ.out _).mono ?_
  rintro e u2 ⟨rfl, hb2⟩
  have HB2 := Lib.hid (HB1.out.trans (hb2.mono HB1.out.size))
  clear hb2 HB1
  go_wp2_with fail
  refine (HR.out _).mono ?_
  rintro e u3 ⟨rfl, hb3⟩
  have HB3 := Lib.hid (HB2.out.trans (hb3.mono HB2.out.size))
  clear hb3 HB2
  go_wp2_with (go_at_call 18; refine (HBK.out _).mono ?_; rintro e _ ⟨rfl, rfl⟩)
  go_ret
  exact ⟨rfl, HB3.out⟩

set_option maxHeartbeats 4000000 in
theorem divs_0_5 (x y X : Int) (w : World)
    (hx : ∀ u, Calls Try.prog 18 #[.int .i64 5, .int .i64 x] u fun e w' => e = .returned (.int .i64 X) ∧ u = w')
    (hy : ∀ u, Calls Try.prog 18 #[.int .i64 5, .int .i64 y] u fun e w' => e = .returned (.int .i64 0) ∧ u = w')
    (hq : ∀ u, Calls Try.prog 19 #[.int .i64 10, .int .i64 5, .int .i64 5, .int .i64 X, .int .i64 0] u fun r w' => r = .returned (.tuple #[.int .i64 0, .int .i64 21]) ∧ Below u.heap.size u w')
    (hr : ∀ u, Calls Try.prog 19 #[.int .i64 11, .int .i64 5, .int .i64 5, .int .i64 X, .int .i64 0] u fun r w' => r = .returned (.tuple #[.int .i64 0, .int .i64 21]) ∧ Below u.heap.size u w') :
    Calls Try.prog 5 #[.bool true, .int .i64 x, .int .i64 y] w fun e w' => e = .returned (.bool true) ∧ Below w.heap.size w w' := by
  have HX := Lib.hid hx
  have HY := Lib.hid hy
  have HQ := Lib.hid hq
  have HR := Lib.hid hr
  clear hx hy hq hr
  go_enter Try.func5, Try.ntmps5
  go_wp2_with fail
  refine (known_any _).mono ?_
  rintro e u1 ⟨rfl, hb1⟩
  have HB1 := Lib.hid hb1
  clear hb1
  go_wp2_with fail
  refine (HX.out _).mono ?_
  rintro e _ ⟨rfl, rfl⟩
  go_wp2_with fail
  refine (HY.out _).mono ?_
  rintro e _ ⟨rfl, rfl⟩
  go_wp2_with fail
  refine (HQ.out _).mono ?_
  rintro e u2 ⟨rfl, hb2⟩
  have HB2 := Lib.hid (HB1.out.trans (hb2.mono HB1.out.size))
  clear hb2 HB1
  go_wp2_with fail
  refine (HR.out _).mono ?_
  rintro e u3 ⟨rfl, hb3⟩
  have HB3 := Lib.hid (HB2.out.trans (hb3.mono HB2.out.size))
  clear hb3 HB2
  go_wp2
  go_ret
  exact ⟨rfl, HB3.out⟩

set_option maxHeartbeats 4000000 in
theorem divs_zn_5 (x y X Y Q R : Int) (w : World)
    (hx : ∀ u, Calls Try.prog 18 #[.int .i64 5, .int .i64 x] u fun e w' => e = .returned (.int .i64 X) ∧ u = w')
    (hy : ∀ u, Calls Try.prog 18 #[.int .i64 5, .int .i64 y] u fun e w' => e = .returned (.int .i64 Y) ∧ u = w')
    (hb : ∀ u, Calls Try.prog 18 #[.int .i64 5, .int .i64 (wrap64 (wrap64 (Q * Y) + R))] u fun e w' => e = .returned (.int .i64 X) ∧ u = w')
    (hq : ∀ u, Calls Try.prog 19 #[.int .i64 10, .int .i64 5, .int .i64 5, .int .i64 X, .int .i64 Y] u fun r w' => r = .returned (.tuple #[.int .i64 Q, .int .i64 0]) ∧ Below u.heap.size u w')
    (hr : ∀ u, Calls Try.prog 19 #[.int .i64 11, .int .i64 5, .int .i64 5, .int .i64 X, .int .i64 Y] u fun r w' => r = .returned (.tuple #[.int .i64 R, .int .i64 0]) ∧ Below u.heap.size u w') (f0 : (R == 0) = true) (h1 : 0 ≤ R) (h2 : R ≤ 0) (hY : Y < 0) (fY : (Y == 0) = false) (hlo : -2147483648 ≤ Y) (d1 : decide (R < 0) = false) (d2 : decide (Y < 0) = true) (d3 : decide (0 < Y) = false) (d4 : decide (R < -Y) = true) :
    Calls Try.prog 5 #[.bool true, .int .i64 x, .int .i64 y] w fun e w' => e = .returned (.bool true) ∧ Below w.heap.size w w' := by
  have HX := Lib.hid hx
  have HY := Lib.hid hy
  have HBK := Lib.hid hb
  have HQ := Lib.hid hq
  have HR := Lib.hid hr
  clear hx hy hb hq hr
  go_enter Try.func5, Try.ntmps5
  go_wp2_with fail
  refine (known_any _).mono ?_
  rintro e u1 ⟨rfl, hb1⟩
  have HB1 := Lib.hid hb1
  clear hb1
  go_wp2_with fail
  refine (HX.out _).mono ?_
  rintro e _ ⟨rfl, rfl⟩
  go_wp2_with fail
  refine (HY.out _).mono ?_
  rintro e _ ⟨rfl, rfl⟩
  go_wp2_with fail
  refine (HQ.out _).mono ?_
  rintro e u2 ⟨rfl, hb2⟩
  have HB2 := Lib.hid (HB1.out.trans (hb2.mono HB1.out.size))
  clear hb2 HB1
  go_wp2_with fail
  refine (HR.out _).mono ?_
  rintro e u3 ⟨rfl, hb3⟩
  have HB3 := Lib.hid (HB2.out.trans (hb3.mono HB2.out.size))
  clear hb3 HB2
  go_wp2_with (go_at_call 18; refine (HBK.out _).mono ?_; rintro e _ ⟨rfl, rfl⟩)
  go_ret
  exact ⟨rfl, HB3.out⟩

set_option maxHeartbeats 4000000 in
theorem divs_zp_5 (x y X Y Q R : Int) (w : World)
    (hx : ∀ u, Calls Try.prog 18 #[.int .i64 5, .int .i64 x] u fun e w' => e = .returned (.int .i64 X) ∧ u = w')
    (hy : ∀ u, Calls Try.prog 18 #[.int .i64 5, .int .i64 y] u fun e w' => e = .returned (.int .i64 Y) ∧ u = w')
    (hb : ∀ u, Calls Try.prog 18 #[.int .i64 5, .int .i64 (wrap64 (wrap64 (Q * Y) + R))] u fun e w' => e = .returned (.int .i64 X) ∧ u = w')
    (hq : ∀ u, Calls Try.prog 19 #[.int .i64 10, .int .i64 5, .int .i64 5, .int .i64 X, .int .i64 Y] u fun r w' => r = .returned (.tuple #[.int .i64 Q, .int .i64 0]) ∧ Below u.heap.size u w')
    (hr : ∀ u, Calls Try.prog 19 #[.int .i64 11, .int .i64 5, .int .i64 5, .int .i64 X, .int .i64 Y] u fun r w' => r = .returned (.tuple #[.int .i64 R, .int .i64 0]) ∧ Below u.heap.size u w') (f0 : (R == 0) = true) (h1 : 0 ≤ R) (h2 : R ≤ 0) (hY : 0 < Y) (fY : (Y == 0) = false) (d1 : decide (R < 0) = false) (d2 : decide (Y < 0) = false) (d3 : decide (0 < Y) = true) (d5 : decide (R < Y) = true) :
    Calls Try.prog 5 #[.bool true, .int .i64 x, .int .i64 y] w fun e w' => e = .returned (.bool true) ∧ Below w.heap.size w w' := by
  have HX := Lib.hid hx
  have HY := Lib.hid hy
  have HBK := Lib.hid hb
  have HQ := Lib.hid hq
  have HR := Lib.hid hr
  clear hx hy hb hq hr
  go_enter Try.func5, Try.ntmps5
  go_wp2_with fail
  refine (known_any _).mono ?_
  rintro e u1 ⟨rfl, hb1⟩
  have HB1 := Lib.hid hb1
  clear hb1
  go_wp2_with fail
  refine (HX.out _).mono ?_
  rintro e _ ⟨rfl, rfl⟩
  go_wp2_with fail
  refine (HY.out _).mono ?_
  rintro e _ ⟨rfl, rfl⟩
  go_wp2_with fail
  refine (HQ.out _).mono ?_
  rintro e u2 ⟨rfl, hb2⟩
  have HB2 := Lib.hid (HB1.out.trans (hb2.mono HB1.out.size))
  clear hb2 HB1
  go_wp2_with fail
  refine (HR.out _).mono ?_
  rintro e u3 ⟨rfl, hb3⟩
  have HB3 := Lib.hid (HB2.out.trans (hb3.mono HB2.out.size))
  clear hb3 HB2
  go_wp2_with (go_at_call 18; refine (HBK.out _).mono ?_; rintro e _ ⟨rfl, rfl⟩)
  go_ret
  exact ⟨rfl, HB3.out⟩

set_option maxHeartbeats 4000000 in
theorem divs_n_5 (x y X Y Q R : Int) (w : World)
    (hx : ∀ u, Calls Try.prog 18 #[.int .i64 5, .int .i64 x] u fun e w' => e = .returned (.int .i64 X) ∧ u = w')
    (hy : ∀ u, Calls Try.prog 18 #[.int .i64 5, .int .i64 y] u fun e w' => e = .returned (.int .i64 Y) ∧ u = w')
    (hb : ∀ u, Calls Try.prog 18 #[.int .i64 5, .int .i64 (wrap64 (wrap64 (Q * Y) + R))] u fun e w' => e = .returned (.int .i64 X) ∧ u = w')
    (hq : ∀ u, Calls Try.prog 19 #[.int .i64 10, .int .i64 5, .int .i64 5, .int .i64 X, .int .i64 Y] u fun r w' => r = .returned (.tuple #[.int .i64 Q, .int .i64 0]) ∧ Below u.heap.size u w')
    (hr : ∀ u, Calls Try.prog 19 #[.int .i64 11, .int .i64 5, .int .i64 5, .int .i64 X, .int .i64 Y] u fun r w' => r = .returned (.tuple #[.int .i64 R, .int .i64 0]) ∧ Below u.heap.size u w') (f0 : (R == 0) = false) (h1 : R < 0) (h2 : X < 0) (fY : (Y == 0) = false) (d1 : decide (R < 0) = true) (d6 : decide (X < 0) = true) :
    Calls Try.prog 5 #[.bool true, .int .i64 x, .int .i64 y] w fun e w' => e = .returned (.bool true) ∧ Below w.heap.size w w' := by
  have HX := Lib.hid hx
  have HY := Lib.hid hy
  have HBK := Lib.hid hb
  have HQ := Lib.hid hq
  have HR := Lib.hid hr
  clear hx hy hb hq hr
  go_enter Try.func5, Try.ntmps5
  go_wp2_with fail
  refine (known_any _).mono ?_
  rintro e u1 ⟨rfl, hb1⟩
  have HB1 := Lib.hid hb1
  clear hb1
  go_wp2_with fail
  refine (HX.out _).mono ?_
  rintro e _ ⟨rfl, rfl⟩
  go_wp2_with fail
  refine (HY.out _).mono ?_
  rintro e _ ⟨rfl, rfl⟩
  go_wp2_with fail
  refine (HQ.out _).mono ?_
  rintro e u2 ⟨rfl, hb2⟩
  have HB2 := Lib.hid (HB1.out.trans (hb2.mono HB1.out.size))
  clear hb2 HB1
  go_wp2_with fail
  refine (HR.out _).mono ?_
  rintro e u3 ⟨rfl, hb3⟩
  have HB3 := Lib.hid (HB2.out.trans (hb3.mono HB2.out.size))
  clear hb3 HB2
  go_wp2_with (go_at_call 18; refine (HBK.out _).mono ?_; rintro e _ ⟨rfl, rfl⟩)
  go_ret
  exact ⟨rfl, HB3.out⟩

set_option maxHeartbeats 4000000 in
theorem divs_pn_5 (x y X Y Q R : Int) (w : World)
    (hx : ∀ u, Calls Try.prog 18 #[.int .i64 5, .int .i64 x] u fun e w' => e = .returned (.int .i64 X) ∧ u = w')
    (hy : ∀ u, Calls Try.prog 18 #[.int .i64 5, .int .i64 y] u fun e w' => e = .returned (.int .i64 Y) ∧ u = w')
    (hb : ∀ u, Calls Try.prog 18 #[.int .i64 5, .int .i64 (wrap64 (wrap64 (Q * Y) + R))] u fun e w' => e = .returned (.int .i64 X) ∧ u = w')
    (hq : ∀ u, Calls Try.prog 19 #[.int .i64 10, .int .i64 5, .int .i64 5, .int .i64 X, .int .i64 Y] u fun r w' => r = .returned (.tuple #[.int .i64 Q, .int .i64 0]) ∧ Below u.heap.size u w')
    (hr : ∀ u, Calls Try.prog 19 #[.int .i64 11, .int .i64 5, .int .i64 5, .int .i64 X, .int .i64 Y] u fun r w' => r = .returned (.tuple #[.int .i64 R, .int .i64 0]) ∧ Below u.heap.size u w') (f0 : (R == 0) = false) (h1 : 0 < R) (h2 : 0 < X) (hY : Y < 0) (hlo : -2147483648 ≤ Y) (h3 : R < -Y) (fY : (Y == 0) = false) (d1 : decide (R < 0) = false) (d2 : decide (Y < 0) = true) (d3 : decide (0 < Y) = false) (d4 : decide (R < -Y) = true) (d6 : decide (X < 0) = false) :
    Calls Try.prog 5 #[.bool true, .int .i64 x, .int .i64 y] w fun e w' => e = .returned (.bool true) ∧ Below w.heap.size w w' := by
  have HX := Lib.hid hx
  have HY := Lib.hid hy
  have HBK := Lib.hid hb
  have HQ := Lib.hid hq
  have HR := Lib.hid hr
  clear hx hy hb hq hr
  go_enter Try.func5, Try.ntmps5
  go_wp2_with fail
  refine (known_any _).mono ?_
  rintro e u1 ⟨rfl, hb1⟩
  have HB1 := Lib.hid hb1
  clear hb1
  go_wp2_with fail
  refine (HX.out _).mono ?_
  rintro e _ ⟨rfl, rfl⟩
  go_wp2_with fail
  refine (HY.out _).mono ?_
  rintro e _ ⟨rfl, rfl⟩
  go_wp2_with fail
  refine (HQ.out _).mono ?_
  rintro e u2 ⟨rfl, hb2⟩
  have HB2 := Lib.hid (HB1.out.trans (hb2.mono HB1.out.size))
  clear hb2 HB1
  go_wp2_with fail
  refine (HR.out _).mono ?_
  rintro e u3 ⟨rfl, hb3⟩
  have HB3 := Lib.hid (HB2.out.trans (hb3.mono HB2.out.size))
  clear hb3 HB2
  go_wp2_with (go_at_call 18; refine (HBK.out _).mono ?_; rintro e _ ⟨rfl, rfl⟩)
  go_ret
  exact ⟨rfl, HB3.out⟩

set_option maxHeartbeats 4000000 in
theorem divs_pp_5 (x y X Y Q R : Int) (w : World)
    (hx : ∀ u, Calls Try.prog 18 #[.int .i64 5, .int .i64 x] u fun e w' => e = .returned (.int .i64 X) ∧ u = w')
    (hy : ∀ u, Calls Try.prog 18 #[.int .i64 5, .int .i64 y] u fun e w' => e = .returned (.int .i64 Y) ∧ u = w')
    (hb : ∀ u, Calls Try.prog 18 #[.int .i64 5, .int .i64 (wrap64 (wrap64 (Q * Y) + R))] u fun e w' => e = .returned (.int .i64 X) ∧ u = w')
    (hq : ∀ u, Calls Try.prog 19 #[.int .i64 10, .int .i64 5, .int .i64 5, .int .i64 X, .int .i64 Y] u fun r w' => r = .returned (.tuple #[.int .i64 Q, .int .i64 0]) ∧ Below u.heap.size u w')
    (hr : ∀ u, Calls Try.prog 19 #[.int .i64 11, .int .i64 5, .int .i64 5, .int .i64 X, .int .i64 Y] u fun r w' => r = .returned (.tuple #[.int .i64 R, .int .i64 0]) ∧ Below u.heap.size u w') (f0 : (R == 0) = false) (h1 : 0 < R) (h2 : 0 < X) (hY : 0 < Y) (h3 : R < Y) (fY : (Y == 0) = false) (d1 : decide (R < 0) = false) (d2 : decide (Y < 0) = false) (d3 : decide (0 < Y) = true) (d5 : decide (R < Y) = true) (d6 : decide (X < 0) = false) :
    Calls Try.prog 5 #[.bool true, .int .i64 x, .int .i64 y] w fun e w' => e = .returned (.bool true) ∧ Below w.heap.size w w' := by
  have HX := Lib.hid hx
  have HY := Lib.hid hy
  have HBK := Lib.hid hb
  have HQ := Lib.hid hq
  have HR := Lib.hid hr
  clear hx hy hb hq hr
  go_enter Try.func5, Try.ntmps5
  go_wp2_with fail
  refine (known_any _).mono ?_
  rintro e u1 ⟨rfl, hb1⟩
  have HB1 := Lib.hid hb1
  clear hb1
  go_wp2_with fail
  refine (HX.out _).mono ?_
  rintro e _ ⟨rfl, rfl⟩
  go_wp2_with fail
  refine (HY.out _).mono ?_
  rintro e _ ⟨rfl, rfl⟩
  go_wp2_with fail
  refine (HQ.out _).mono ?_
  rintro e u2 ⟨rfl, hb2⟩
  have HB2 := Lib.hid (HB1.out.trans (hb2.mono HB1.out.size))
  clear hb2 HB1
  go_wp2_with fail
  refine (HR.out _).mono ?_
  rintro e u3 ⟨rfl, hb3⟩
  have HB3 := Lib.hid (HB2.out.trans (hb3.mono HB2.out.size))
  clear hb3 HB2
  go_wp2_with (go_at_call 18; refine (HBK.out _).mono ?_; rintro e _ ⟨rfl, rfl⟩)
  go_ret
  exact ⟨rfl, HB3.out⟩

theorem divs_two (s k X Y : Int) (hk : k = 4 ∨ k = 5) (hs : s = 10 ∨ s = 11) (u : World) : Calls Try.prog 19 #[.int .i64 s, .int .i64 k, .int .i64 k, .int .i64 X, .int .i64 Y] u fun r w' =>
    r = .returned (.tuple #[.int .i64 (if Y = 0 then 0 else wrapK k (rawK s X Y)), .int .i64 (if Y = 0 then 21 else 0)]) ∧ Below u.heap.size u w' := by
  have hE : kindE s k k = 0 := by rcases hk with rfl | rfl <;> rcases hs with rfl | rfl <;> rfl
  have hM : kindM s k k = k := by rcases hk with rfl | rfl <;> rcases hs with rfl | rfl <;> rfl
  refine two_to s k k X Y _ _ u ?_ ?_
  · unfold twoM; rw [hE, hM]; by_cases h : Y = 0 <;> simp [h, hs]
  · unfold twoE; rw [hE]; by_cases h : Y = 0 <;> simp [h, hs]

theorem arithDivs_walk (d : Bool) (x y : Int) (w : World) (w1 : I64 x) (w2 : I64 y) :
    Calls Try.prog 5 #[.bool d, .int .i64 x, .int .i64 y] w fun e w' => e = .returned (.bool true) ∧ Below w.heap.size w w' := by
  cases d
  ·
    have hk : (4 : Int) = 4 ∨ (4 : Int) = 5 := by omega
    have HX := fun u => rwrap_any 4 x u
    have HY := fun u => rwrap_any 4 y u
    have bx := wrapK_half 4 x hk
    have bY := wrapK_half 4 y hk
    generalize wrapK 4 x = X at *
    generalize wrapK 4 y = Y at *
    have HQ := fun u => divs_two 10 4 X Y hk (by omega) u
    have HR := fun u => divs_two 11 4 X Y hk (by omega) u
    by_cases h0 : Y = 0
    · subst h0
      simp only [if_true] at HQ HR
      exact divs_0_4 x y X w HX HY HQ HR
    · simp only [if_neg h0] at HQ HR
      have hback := divs_back 4 X Y hk bx bY h0
      have hm := tmod_facts X Y h0
      have hr : wrapK 4 (X.tmod Y) = X.tmod Y := wrapK_of 4 _ (by
        simp [halfK] at bx bY
        rcases (show Y < 0 ∨ 0 < Y by omega) with h | h
        · have := hm.2.1 h; omega
        · have := hm.2.2 h; omega)
      simp only [rawK] at HQ HR
      simp at HQ HR
      rw [hr] at HR hback
      have HBK := fun u => rwrap_any 4 (wrap64 (wrap64 (wrapK 4 (wrap64 (X.tdiv Y)) * Y) + X.tmod Y)) u
      rw [hback] at HBK
      clear hback hr
      have fY : (Y == 0) = false := by simpa using h0
      simp [halfK] at bx bY
      generalize wrapK 4 (wrap64 (X.tdiv Y)) = Q at *
      generalize X.tmod Y = R at *
      obtain ⟨hs, hn, hp⟩ := hm
      rcases hs with h | ⟨h, h'⟩ | ⟨h, h'⟩
      · rcases (show Y < 0 ∨ 0 < Y by omega) with g | g
        · exact divs_zn_4 x y X Y Q R w HX HY HBK HQ HR (by simpa using h) (by omega) (by omega) g fY (by omega) (by simp; omega) (by simp; omega) (by simp; omega) (by simp; omega)
        · exact divs_zp_4 x y X Y Q R w HX HY HBK HQ HR (by simpa using h) (by omega) (by omega) g fY (by simp; omega) (by simp; omega) (by simp; omega) (by simp; omega)
      · exact divs_n_4 x y X Y Q R w HX HY HBK HQ HR (by simp; omega) h h' fY (by simp; omega) (by simp; omega)
      · rcases (show Y < 0 ∨ 0 < Y by omega) with g | g
        · exact divs_pn_4 x y X Y Q R w HX HY HBK HQ HR (by simp; omega) h h' g (by omega) (hn g).1 fY (by simp; omega) (by simp; omega) (by simp; omega) (by simpa using (hn g).1) (by simp; omega)
        · exact divs_pp_4 x y X Y Q R w HX HY HBK HQ HR (by simp; omega) h h' g (hp g).1 fY (by simp; omega) (by simp; omega) (by simp; omega) (by simpa using (hp g).1) (by simp; omega)
  ·
    have hk : (5 : Int) = 4 ∨ (5 : Int) = 5 := by omega
    have HX := fun u => rwrap_any 5 x u
    have HY := fun u => rwrap_any 5 y u
    have bx := wrapK_half 5 x hk
    have bY := wrapK_half 5 y hk
    generalize wrapK 5 x = X at *
    generalize wrapK 5 y = Y at *
    have HQ := fun u => divs_two 10 5 X Y hk (by omega) u
    have HR := fun u => divs_two 11 5 X Y hk (by omega) u
    by_cases h0 : Y = 0
    · subst h0
      simp only [if_true] at HQ HR
      exact divs_0_5 x y X w HX HY HQ HR
    · simp only [if_neg h0] at HQ HR
      have hback := divs_back 5 X Y hk bx bY h0
      have hm := tmod_facts X Y h0
      have hr : wrapK 5 (X.tmod Y) = X.tmod Y := wrapK_of 5 _ (by
        simp [halfK] at bx bY
        rcases (show Y < 0 ∨ 0 < Y by omega) with h | h
        · have := hm.2.1 h; omega
        · have := hm.2.2 h; omega)
      simp only [rawK] at HQ HR
      simp at HQ HR
      rw [hr] at HR hback
      have HBK := fun u => rwrap_any 5 (wrap64 (wrap64 (wrapK 5 (wrap64 (X.tdiv Y)) * Y) + X.tmod Y)) u
      rw [hback] at HBK
      clear hback hr
      have fY : (Y == 0) = false := by simpa using h0
      simp [halfK] at bx bY
      generalize wrapK 5 (wrap64 (X.tdiv Y)) = Q at *
      generalize X.tmod Y = R at *
      obtain ⟨hs, hn, hp⟩ := hm
      rcases hs with h | ⟨h, h'⟩ | ⟨h, h'⟩
      · rcases (show Y < 0 ∨ 0 < Y by omega) with g | g
        · exact divs_zn_5 x y X Y Q R w HX HY HBK HQ HR (by simpa using h) (by omega) (by omega) g fY (by omega) (by simp; omega) (by simp; omega) (by simp; omega) (by simp; omega)
        · exact divs_zp_5 x y X Y Q R w HX HY HBK HQ HR (by simpa using h) (by omega) (by omega) g fY (by simp; omega) (by simp; omega) (by simp; omega) (by simp; omega)
      · exact divs_n_5 x y X Y Q R w HX HY HBK HQ HR (by simp; omega) h h' fY (by simp; omega) (by simp; omega)
      · rcases (show Y < 0 ∨ 0 < Y by omega) with g | g
        · exact divs_pn_5 x y X Y Q R w HX HY HBK HQ HR (by simp; omega) h h' g (by omega) (hn g).1 fY (by simp; omega) (by simp; omega) (by simp; omega) (by simpa using (hn g).1) (by simp; omega)
        · exact divs_pp_5 x y X Y Q R w HX HY HBK HQ HR (by simp; omega) h h' g (hp g).1 fY (by simp; omega) (by simp; omega) (by simp; omega) (by simpa using (hp g).1) (by simp; omega)
end Go.Proofs.Ytelfgfoonfajiaa
