/- Chapter 13: the walk of BlocksTops. -/
import Derived.Test.YtodjiplbecpplaaH13
import Derived.Test.YtodjiplbecpplaaI13
namespace Go.Proofs.Ytodjiplbecpplaa
open Go.RowKit
set_option linter.unusedVariables false
attribute [local go_sem ↓] Go.wp_at_zero Go.wp_at_succ

theorem ton_to (c0 c1 c2 c3 c4 c5 now q e t r : Int) (w : World) (hq : tonQ c0 c1 c4 c5 now = q) (he : tonE c0 c1 c4 c5 now = e) (ht : tonT c0 c4 c5 now = t) (hr : tonR c0 c5 = r) :
    Calls Try.prog 15 #[.agg #[.int .i64 c0, .int .i64 c1, .int .i64 c2, .int .i64 c3, .int .i64 c4, .int .i64 c5], .int .i64 now] w fun e' w' =>
      e' = .returned (.agg #[.int .i64 c0, .int .i64 c1, .int .i64 q, .int .i64 e, .int .i64 t, .int .i64 r]) ∧ Below w.heap.size w w' := by
  subst hq; subst he; subst ht; subst hr; exact ton_any c0 c1 c2 c3 c4 c5 now w





set_option maxHeartbeats 4000000 in
theorem tops_0_neg (t0 : Int) (w : World)  (hx : wrap64 (1099511627776 - t0) < 0) (K : ∀ u, Calls Try.prog 15 #[.agg #[.int .i64 1, .int .i64 1125899906842624, .int .i64 0, .int .i64 0, .int .i64 t0, .int .i64 1], .int .i64 1099511627776] u fun e w' => e = .returned (.agg #[.int .i64 1, .int .i64 1125899906842624, .int .i64 0, .int .i64 (0), .int .i64 t0, .int .i64 1]) ∧ Below u.heap.size u w') (a0 : Int) (hn : ∀ u, Calls Try.prog 11 #[.int .i64 a0, .int .i64 3] u fun e w' => e = .returned (.int .i64 0) ∧ u = w') :
    Calls Try.prog 7 #[.int .i64 a0, .int .i64 t0] w fun e w' => e = .returned (.bool true) ∧ Below w.heap.size w w' := by
  have HK := Lib.hid K
  have HN := Lib.hid hn
  clear K hn
  have HC := Lib.hid (fun u => ctu_to 1 0 5 0 2147483647 0 (2147483647) 1 u (by first | (unfold ctuV; simp; done) | (unfold ctuV; simp; omega)) (bit_yes (by omega)) (by omega))
  go_enter Try.func7, Try.ntmps7
  go_wp2_with fail
  refine (known_any _).mono ?_
  rintro e u1 ⟨rfl, hb1⟩
  have HB1 := Lib.hid hb1
  have hz1 : w.heap.size ≤ u1.heap.size := hb1.size
  clear hb1
  go_wp2_with fail
  refine (HN.out _).mono ?_
  rintro e _ ⟨rfl, rfl⟩
  go_wp2_with fail
  refine (HC.out _).mono ?_
  rintro e u2 ⟨rfl, hb2⟩
  have HB2 := Lib.hid (HB1.out.trans (hb2.mono hz1))
  have hz2 : w.heap.size ≤ u2.heap.size := by have := hb2.size; omega
  clear hb2 HB1 hz1
  go_wp2_with fail
  refine (HK.out _).mono ?_
  rintro e u3 ⟨rfl, hb3⟩
  have q0 := bcell hb3 (b := u2.heap.size) (by simp)
  have k3 := (q0 3).trans (show _ = some (.int .i64 1) by go_simp)
  have k4 := (q0 4).trans (show _ = some (.int .i64 (2147483647)) by go_simp)
  clear q0
  have HB3 := Lib.hid ((HB2.out.alloc hz2 _).trans (hb3.mono (by simp; omega)))
  have hz3 : u2.heap.size < u3.heap.size := by have := hb3.size; simp at this; omega
  clear hb3 HB2
  go_wp2
  go_ret
  exact ⟨rfl, HB3.out.alloc (by omega) _⟩

set_option maxHeartbeats 4000000 in
theorem tops_0_more (t0 : Int) (w : World)  (hx : ¬ wrap64 (1099511627776 - t0) < 0) (hy : 1125899906842624 < wrap64 (1099511627776 - t0)) (K : ∀ u, Calls Try.prog 15 #[.agg #[.int .i64 1, .int .i64 1125899906842624, .int .i64 0, .int .i64 0, .int .i64 t0, .int .i64 1], .int .i64 1099511627776] u fun e w' => e = .returned (.agg #[.int .i64 1, .int .i64 1125899906842624, .int .i64 1, .int .i64 (1125899906842624), .int .i64 t0, .int .i64 1]) ∧ Below u.heap.size u w') (a0 : Int) (hn : ∀ u, Calls Try.prog 11 #[.int .i64 a0, .int .i64 3] u fun e w' => e = .returned (.int .i64 0) ∧ u = w') :
    Calls Try.prog 7 #[.int .i64 a0, .int .i64 t0] w fun e w' => e = .returned (.bool true) ∧ Below w.heap.size w w' := by
  have HK := Lib.hid K
  have HN := Lib.hid hn
  clear K hn
  have HC := Lib.hid (fun u => ctu_to 1 0 5 0 2147483647 0 (2147483647) 1 u (by first | (unfold ctuV; simp; done) | (unfold ctuV; simp; omega)) (bit_yes (by omega)) (by omega))
  go_enter Try.func7, Try.ntmps7
  go_wp2_with fail
  refine (known_any _).mono ?_
  rintro e u1 ⟨rfl, hb1⟩
  have HB1 := Lib.hid hb1
  have hz1 : w.heap.size ≤ u1.heap.size := hb1.size
  clear hb1
  go_wp2_with fail
  refine (HN.out _).mono ?_
  rintro e _ ⟨rfl, rfl⟩
  go_wp2_with fail
  refine (HC.out _).mono ?_
  rintro e u2 ⟨rfl, hb2⟩
  have HB2 := Lib.hid (HB1.out.trans (hb2.mono hz1))
  have hz2 : w.heap.size ≤ u2.heap.size := by have := hb2.size; omega
  clear hb2 HB1 hz1
  go_wp2_with fail
  refine (HK.out _).mono ?_
  rintro e u3 ⟨rfl, hb3⟩
  have q0 := bcell hb3 (b := u2.heap.size) (by simp)
  have k3 := (q0 3).trans (show _ = some (.int .i64 1) by go_simp)
  have k4 := (q0 4).trans (show _ = some (.int .i64 (2147483647)) by go_simp)
  clear q0
  have HB3 := Lib.hid ((HB2.out.alloc hz2 _).trans (hb3.mono (by simp; omega)))
  have hz3 : u2.heap.size < u3.heap.size := by have := hb3.size; simp at this; omega
  clear hb3 HB2
  go_wp2
  go_ret
  exact ⟨rfl, HB3.out.alloc (by omega) _⟩

set_option maxHeartbeats 4000000 in
theorem tops_0_is (t0 : Int) (w : World)  (hx : ¬ wrap64 (1099511627776 - t0) < 0) (hy : ¬ 1125899906842624 < wrap64 (1099511627776 - t0)) (hz : 1125899906842624 ≤ wrap64 (1099511627776 - t0)) (K : ∀ u, Calls Try.prog 15 #[.agg #[.int .i64 1, .int .i64 1125899906842624, .int .i64 0, .int .i64 0, .int .i64 t0, .int .i64 1], .int .i64 1099511627776] u fun e w' => e = .returned (.agg #[.int .i64 1, .int .i64 1125899906842624, .int .i64 1, .int .i64 (wrap64 (1099511627776 - t0)), .int .i64 t0, .int .i64 1]) ∧ Below u.heap.size u w') (a0 : Int) (hn : ∀ u, Calls Try.prog 11 #[.int .i64 a0, .int .i64 3] u fun e w' => e = .returned (.int .i64 0) ∧ u = w') :
    Calls Try.prog 7 #[.int .i64 a0, .int .i64 t0] w fun e w' => e = .returned (.bool true) ∧ Below w.heap.size w w' := by
  have HK := Lib.hid K
  have HN := Lib.hid hn
  clear K hn
  have HC := Lib.hid (fun u => ctu_to 1 0 5 0 2147483647 0 (2147483647) 1 u (by first | (unfold ctuV; simp; done) | (unfold ctuV; simp; omega)) (bit_yes (by omega)) (by omega))
  go_enter Try.func7, Try.ntmps7
  go_wp2_with fail
  refine (known_any _).mono ?_
  rintro e u1 ⟨rfl, hb1⟩
  have HB1 := Lib.hid hb1
  have hz1 : w.heap.size ≤ u1.heap.size := hb1.size
  clear hb1
  go_wp2_with fail
  refine (HN.out _).mono ?_
  rintro e _ ⟨rfl, rfl⟩
  go_wp2_with fail
  refine (HC.out _).mono ?_
  rintro e u2 ⟨rfl, hb2⟩
  have HB2 := Lib.hid (HB1.out.trans (hb2.mono hz1))
  have hz2 : w.heap.size ≤ u2.heap.size := by have := hb2.size; omega
  clear hb2 HB1 hz1
  go_wp2_with fail
  refine (HK.out _).mono ?_
  rintro e u3 ⟨rfl, hb3⟩
  have q0 := bcell hb3 (b := u2.heap.size) (by simp)
  have k3 := (q0 3).trans (show _ = some (.int .i64 1) by go_simp)
  have k4 := (q0 4).trans (show _ = some (.int .i64 (2147483647)) by go_simp)
  clear q0
  have HB3 := Lib.hid ((HB2.out.alloc hz2 _).trans (hb3.mono (by simp; omega)))
  have hz3 : u2.heap.size < u3.heap.size := by have := hb3.size; simp at this; omega
  clear hb3 HB2
  go_wp2
  go_ret
  exact ⟨rfl, HB3.out.alloc (by omega) _⟩

set_option maxHeartbeats 4000000 in
theorem tops_0_less (t0 : Int) (w : World)  (hx : ¬ wrap64 (1099511627776 - t0) < 0) (hy : ¬ 1125899906842624 < wrap64 (1099511627776 - t0)) (hz : ¬ 1125899906842624 ≤ wrap64 (1099511627776 - t0)) (hz1 : decide (1125899906842624 ≤ wrap64 (1099511627776 - t0)) = false) (K : ∀ u, Calls Try.prog 15 #[.agg #[.int .i64 1, .int .i64 1125899906842624, .int .i64 0, .int .i64 0, .int .i64 t0, .int .i64 1], .int .i64 1099511627776] u fun e w' => e = .returned (.agg #[.int .i64 1, .int .i64 1125899906842624, .int .i64 0, .int .i64 (wrap64 (1099511627776 - t0)), .int .i64 t0, .int .i64 1]) ∧ Below u.heap.size u w') (a0 : Int) (hn : ∀ u, Calls Try.prog 11 #[.int .i64 a0, .int .i64 3] u fun e w' => e = .returned (.int .i64 0) ∧ u = w') :
    Calls Try.prog 7 #[.int .i64 a0, .int .i64 t0] w fun e w' => e = .returned (.bool true) ∧ Below w.heap.size w w' := by
  have HK := Lib.hid K
  have HN := Lib.hid hn
  clear K hn
  have HC := Lib.hid (fun u => ctu_to 1 0 5 0 2147483647 0 (2147483647) 1 u (by first | (unfold ctuV; simp; done) | (unfold ctuV; simp; omega)) (bit_yes (by omega)) (by omega))
  go_enter Try.func7, Try.ntmps7
  go_wp2_with fail
  refine (known_any _).mono ?_
  rintro e u1 ⟨rfl, hb1⟩
  have HB1 := Lib.hid hb1
  have hz1 : w.heap.size ≤ u1.heap.size := hb1.size
  clear hb1
  go_wp2_with fail
  refine (HN.out _).mono ?_
  rintro e _ ⟨rfl, rfl⟩
  go_wp2_with fail
  refine (HC.out _).mono ?_
  rintro e u2 ⟨rfl, hb2⟩
  have HB2 := Lib.hid (HB1.out.trans (hb2.mono hz1))
  have hz2 : w.heap.size ≤ u2.heap.size := by have := hb2.size; omega
  clear hb2 HB1 hz1
  go_wp2_with fail
  refine (HK.out _).mono ?_
  rintro e u3 ⟨rfl, hb3⟩
  have q0 := bcell hb3 (b := u2.heap.size) (by simp)
  have k3 := (q0 3).trans (show _ = some (.int .i64 1) by go_simp)
  have k4 := (q0 4).trans (show _ = some (.int .i64 (2147483647)) by go_simp)
  clear q0
  have HB3 := Lib.hid ((HB2.out.alloc hz2 _).trans (hb3.mono (by simp; omega)))
  have hz3 : u2.heap.size < u3.heap.size := by have := hb3.size; simp at this; omega
  clear hb3 HB2
  go_wp2
  go_ret
  exact ⟨rfl, HB3.out.alloc (by omega) _⟩

set_option maxHeartbeats 4000000 in
theorem tops_1_neg (n t0 : Int) (w : World) (h0 : (n == 0) = false) (h1 : 0 < n) (h2 : n < 3) (hx : wrap64 (1099511627776 - t0) < 0) (K : ∀ u, Calls Try.prog 15 #[.agg #[.int .i64 1, .int .i64 1125899906842624, .int .i64 0, .int .i64 0, .int .i64 t0, .int .i64 1], .int .i64 1099511627776] u fun e w' => e = .returned (.agg #[.int .i64 1, .int .i64 1125899906842624, .int .i64 0, .int .i64 (0), .int .i64 t0, .int .i64 1]) ∧ Below u.heap.size u w') (a0 : Int) (hn : ∀ u, Calls Try.prog 11 #[.int .i64 a0, .int .i64 3] u fun e w' => e = .returned (.int .i64 n) ∧ u = w') :
    Calls Try.prog 7 #[.int .i64 a0, .int .i64 t0] w fun e w' => e = .returned (.bool true) ∧ Below w.heap.size w w' := by
  have HK := Lib.hid K
  have HN := Lib.hid hn
  clear K hn
  have HC := Lib.hid (fun u => ctu_to 1 0 5 0 (2147483647 - n) 0 (2147483648 - n) 1 u (by first | (unfold ctuV; simp; done) | (unfold ctuV; simp; omega)) (bit_yes (by omega)) (by omega))
  go_enter Try.func7, Try.ntmps7
  go_wp2_with fail
  refine (known_any _).mono ?_
  rintro e u1 ⟨rfl, hb1⟩
  have HB1 := Lib.hid hb1
  have hz1 : w.heap.size ≤ u1.heap.size := hb1.size
  clear hb1
  go_wp2_with fail
  refine (HN.out _).mono ?_
  rintro e _ ⟨rfl, rfl⟩
  go_wp2_with fail
  refine (HC.out _).mono ?_
  rintro e u2 ⟨rfl, hb2⟩
  have HB2 := Lib.hid (HB1.out.trans (hb2.mono hz1))
  have hz2 : w.heap.size ≤ u2.heap.size := by have := hb2.size; omega
  clear hb2 HB1 hz1
  go_wp2_with fail
  refine (HK.out _).mono ?_
  rintro e u3 ⟨rfl, hb3⟩
  have q0 := bcell hb3 (b := u2.heap.size) (by simp)
  have k3 := (q0 3).trans (show _ = some (.int .i64 1) by go_simp)
  have k4 := (q0 4).trans (show _ = some (.int .i64 (2147483648 - n)) by go_simp)
  clear q0
  have HB3 := Lib.hid ((HB2.out.alloc hz2 _).trans (hb3.mono (by simp; omega)))
  have hz3 : u2.heap.size < u3.heap.size := by have := hb3.size; simp at this; omega
  clear hb3 HB2
  go_wp2
  go_ret
  exact ⟨rfl, HB3.out.alloc (by omega) _⟩

set_option maxHeartbeats 4000000 in
theorem tops_1_more (n t0 : Int) (w : World) (h0 : (n == 0) = false) (h1 : 0 < n) (h2 : n < 3) (hx : ¬ wrap64 (1099511627776 - t0) < 0) (hy : 1125899906842624 < wrap64 (1099511627776 - t0)) (K : ∀ u, Calls Try.prog 15 #[.agg #[.int .i64 1, .int .i64 1125899906842624, .int .i64 0, .int .i64 0, .int .i64 t0, .int .i64 1], .int .i64 1099511627776] u fun e w' => e = .returned (.agg #[.int .i64 1, .int .i64 1125899906842624, .int .i64 1, .int .i64 (1125899906842624), .int .i64 t0, .int .i64 1]) ∧ Below u.heap.size u w') (a0 : Int) (hn : ∀ u, Calls Try.prog 11 #[.int .i64 a0, .int .i64 3] u fun e w' => e = .returned (.int .i64 n) ∧ u = w') :
    Calls Try.prog 7 #[.int .i64 a0, .int .i64 t0] w fun e w' => e = .returned (.bool true) ∧ Below w.heap.size w w' := by
  have HK := Lib.hid K
  have HN := Lib.hid hn
  clear K hn
  have HC := Lib.hid (fun u => ctu_to 1 0 5 0 (2147483647 - n) 0 (2147483648 - n) 1 u (by first | (unfold ctuV; simp; done) | (unfold ctuV; simp; omega)) (bit_yes (by omega)) (by omega))
  go_enter Try.func7, Try.ntmps7
  go_wp2_with fail
  refine (known_any _).mono ?_
  rintro e u1 ⟨rfl, hb1⟩
  have HB1 := Lib.hid hb1
  have hz1 : w.heap.size ≤ u1.heap.size := hb1.size
  clear hb1
  go_wp2_with fail
  refine (HN.out _).mono ?_
  rintro e _ ⟨rfl, rfl⟩
  go_wp2_with fail
  refine (HC.out _).mono ?_
  rintro e u2 ⟨rfl, hb2⟩
  have HB2 := Lib.hid (HB1.out.trans (hb2.mono hz1))
  have hz2 : w.heap.size ≤ u2.heap.size := by have := hb2.size; omega
  clear hb2 HB1 hz1
  go_wp2_with fail
  refine (HK.out _).mono ?_
  rintro e u3 ⟨rfl, hb3⟩
  have q0 := bcell hb3 (b := u2.heap.size) (by simp)
  have k3 := (q0 3).trans (show _ = some (.int .i64 1) by go_simp)
  have k4 := (q0 4).trans (show _ = some (.int .i64 (2147483648 - n)) by go_simp)
  clear q0
  have HB3 := Lib.hid ((HB2.out.alloc hz2 _).trans (hb3.mono (by simp; omega)))
  have hz3 : u2.heap.size < u3.heap.size := by have := hb3.size; simp at this; omega
  clear hb3 HB2
  go_wp2
  go_ret
  exact ⟨rfl, HB3.out.alloc (by omega) _⟩

set_option maxHeartbeats 4000000 in
theorem tops_1_is (n t0 : Int) (w : World) (h0 : (n == 0) = false) (h1 : 0 < n) (h2 : n < 3) (hx : ¬ wrap64 (1099511627776 - t0) < 0) (hy : ¬ 1125899906842624 < wrap64 (1099511627776 - t0)) (hz : 1125899906842624 ≤ wrap64 (1099511627776 - t0)) (K : ∀ u, Calls Try.prog 15 #[.agg #[.int .i64 1, .int .i64 1125899906842624, .int .i64 0, .int .i64 0, .int .i64 t0, .int .i64 1], .int .i64 1099511627776] u fun e w' => e = .returned (.agg #[.int .i64 1, .int .i64 1125899906842624, .int .i64 1, .int .i64 (wrap64 (1099511627776 - t0)), .int .i64 t0, .int .i64 1]) ∧ Below u.heap.size u w') (a0 : Int) (hn : ∀ u, Calls Try.prog 11 #[.int .i64 a0, .int .i64 3] u fun e w' => e = .returned (.int .i64 n) ∧ u = w') :
    Calls Try.prog 7 #[.int .i64 a0, .int .i64 t0] w fun e w' => e = .returned (.bool true) ∧ Below w.heap.size w w' := by
  have HK := Lib.hid K
  have HN := Lib.hid hn
  clear K hn
  have HC := Lib.hid (fun u => ctu_to 1 0 5 0 (2147483647 - n) 0 (2147483648 - n) 1 u (by first | (unfold ctuV; simp; done) | (unfold ctuV; simp; omega)) (bit_yes (by omega)) (by omega))
  go_enter Try.func7, Try.ntmps7
  go_wp2_with fail
  refine (known_any _).mono ?_
  rintro e u1 ⟨rfl, hb1⟩
  have HB1 := Lib.hid hb1
  have hz1 : w.heap.size ≤ u1.heap.size := hb1.size
  clear hb1
  go_wp2_with fail
  refine (HN.out _).mono ?_
  rintro e _ ⟨rfl, rfl⟩
  go_wp2_with fail
  refine (HC.out _).mono ?_
  rintro e u2 ⟨rfl, hb2⟩
  have HB2 := Lib.hid (HB1.out.trans (hb2.mono hz1))
  have hz2 : w.heap.size ≤ u2.heap.size := by have := hb2.size; omega
  clear hb2 HB1 hz1
  go_wp2_with fail
  refine (HK.out _).mono ?_
  rintro e u3 ⟨rfl, hb3⟩
  have q0 := bcell hb3 (b := u2.heap.size) (by simp)
  have k3 := (q0 3).trans (show _ = some (.int .i64 1) by go_simp)
  have k4 := (q0 4).trans (show _ = some (.int .i64 (2147483648 - n)) by go_simp)
  clear q0
  have HB3 := Lib.hid ((HB2.out.alloc hz2 _).trans (hb3.mono (by simp; omega)))
  have hz3 : u2.heap.size < u3.heap.size := by have := hb3.size; simp at this; omega
  clear hb3 HB2
  go_wp2
  go_ret
  exact ⟨rfl, HB3.out.alloc (by omega) _⟩

set_option maxHeartbeats 4000000 in
theorem tops_1_less (n t0 : Int) (w : World) (h0 : (n == 0) = false) (h1 : 0 < n) (h2 : n < 3) (hx : ¬ wrap64 (1099511627776 - t0) < 0) (hy : ¬ 1125899906842624 < wrap64 (1099511627776 - t0)) (hz : ¬ 1125899906842624 ≤ wrap64 (1099511627776 - t0)) (hz1 : decide (1125899906842624 ≤ wrap64 (1099511627776 - t0)) = false) (K : ∀ u, Calls Try.prog 15 #[.agg #[.int .i64 1, .int .i64 1125899906842624, .int .i64 0, .int .i64 0, .int .i64 t0, .int .i64 1], .int .i64 1099511627776] u fun e w' => e = .returned (.agg #[.int .i64 1, .int .i64 1125899906842624, .int .i64 0, .int .i64 (wrap64 (1099511627776 - t0)), .int .i64 t0, .int .i64 1]) ∧ Below u.heap.size u w') (a0 : Int) (hn : ∀ u, Calls Try.prog 11 #[.int .i64 a0, .int .i64 3] u fun e w' => e = .returned (.int .i64 n) ∧ u = w') :
    Calls Try.prog 7 #[.int .i64 a0, .int .i64 t0] w fun e w' => e = .returned (.bool true) ∧ Below w.heap.size w w' := by
  have HK := Lib.hid K
  have HN := Lib.hid hn
  clear K hn
  have HC := Lib.hid (fun u => ctu_to 1 0 5 0 (2147483647 - n) 0 (2147483648 - n) 1 u (by first | (unfold ctuV; simp; done) | (unfold ctuV; simp; omega)) (bit_yes (by omega)) (by omega))
  go_enter Try.func7, Try.ntmps7
  go_wp2_with fail
  refine (known_any _).mono ?_
  rintro e u1 ⟨rfl, hb1⟩
  have HB1 := Lib.hid hb1
  have hz1 : w.heap.size ≤ u1.heap.size := hb1.size
  clear hb1
  go_wp2_with fail
  refine (HN.out _).mono ?_
  rintro e _ ⟨rfl, rfl⟩
  go_wp2_with fail
  refine (HC.out _).mono ?_
  rintro e u2 ⟨rfl, hb2⟩
  have HB2 := Lib.hid (HB1.out.trans (hb2.mono hz1))
  have hz2 : w.heap.size ≤ u2.heap.size := by have := hb2.size; omega
  clear hb2 HB1 hz1
  go_wp2_with fail
  refine (HK.out _).mono ?_
  rintro e u3 ⟨rfl, hb3⟩
  have q0 := bcell hb3 (b := u2.heap.size) (by simp)
  have k3 := (q0 3).trans (show _ = some (.int .i64 1) by go_simp)
  have k4 := (q0 4).trans (show _ = some (.int .i64 (2147483648 - n)) by go_simp)
  clear q0
  have HB3 := Lib.hid ((HB2.out.alloc hz2 _).trans (hb3.mono (by simp; omega)))
  have hz3 : u2.heap.size < u3.heap.size := by have := hb3.size; simp at this; omega
  clear hb3 HB2
  go_wp2
  go_ret
  exact ⟨rfl, HB3.out.alloc (by omega) _⟩

theorem blocksTops_walk (a0 a1 : Int) (w : World) (w0 : I64 a0) (w1 : I64 a1) :
    Calls Try.prog 7 #[.int .i64 a0, .int .i64 a1] w fun e w' => e = .returned (.bool true) ∧ Below w.heap.size w w' := by
  have hn := fun u => within_any a0 3 (by decide) (by decide) u
  have hp1 : 0 ≤ a0 % 3 := by omega
  have hp2 : a0 % 3 < 3 := by omega
  generalize a0 % 3 = n at *
  have T : ∀ q e, (q = if 1125899906842624 ≤ (if wrap64 (1099511627776 - a1) < 0 then 0 else wrap64 (1099511627776 - a1)) then (1 : Int) else 0) → (e = tonM 1125899906842624 (if wrap64 (1099511627776 - a1) < 0 then 0 else wrap64 (1099511627776 - a1))) →
      ∀ u, Calls Try.prog 15 #[.agg #[.int .i64 1, .int .i64 1125899906842624, .int .i64 0, .int .i64 0, .int .i64 a1, .int .i64 1], .int .i64 1099511627776] u fun e' w' => e' = .returned (.agg #[.int .i64 1, .int .i64 1125899906842624, .int .i64 q, .int .i64 e, .int .i64 a1, .int .i64 1]) ∧ Below u.heap.size u w' := by
    intro q e hq he u
    refine ton_to 1 1125899906842624 0 0 a1 1 1099511627776 q e a1 1 u ?_ ?_ (by simp [tonT]) (by simp [tonR])
    · rw [hq]; simp only [tonQ, tonD, bit]; simp
    · rw [he]; simp only [tonE, tonD]; simp
  by_cases hx : wrap64 (1099511627776 - a1) < 0
  · have T1 := T 0 0 (by rw [if_pos hx]; simp) (by rw [if_pos hx]; simp [tonM])
    rcases (show n = 0 ∨ (n ≠ 0 ∧ 0 < n) by omega) with rfl | ⟨h, h'⟩
    · exact tops_0_neg a1 w hx T1 a0 hn
    · exact tops_1_neg n a1 w (by simpa using h) h' hp2 hx T1 a0 hn
  · by_cases hy : 1125899906842624 < wrap64 (1099511627776 - a1)
    · have T1 := T 1 1125899906842624 (by rw [if_neg hx, if_pos (by omega)]) (by rw [if_neg hx]; simp [tonM, hy])
      rcases (show n = 0 ∨ (n ≠ 0 ∧ 0 < n) by omega) with rfl | ⟨h, h'⟩
      · exact tops_0_more a1 w hx hy T1 a0 hn
      · exact tops_1_more n a1 w (by simpa using h) h' hp2 hx hy T1 a0 hn
    · have he : tonM 1125899906842624 (if wrap64 (1099511627776 - a1) < 0 then 0 else wrap64 (1099511627776 - a1)) = wrap64 (1099511627776 - a1) := by rw [if_neg hx]; simp [tonM, hy, hx]
      by_cases hz : 1125899906842624 ≤ wrap64 (1099511627776 - a1)
      · have T1 := T 1 _ (by rw [if_neg hx, if_pos hz]) he.symm
        rcases (show n = 0 ∨ (n ≠ 0 ∧ 0 < n) by omega) with rfl | ⟨h, h'⟩
        · exact tops_0_is a1 w hx hy hz T1 a0 hn
        · exact tops_1_is n a1 w (by simpa using h) h' hp2 hx hy hz T1 a0 hn
      · have T1 := T 0 _ (by rw [if_neg hx, if_neg hz]) he.symm
        rcases (show n = 0 ∨ (n ≠ 0 ∧ 0 < n) by omega) with rfl | ⟨h, h'⟩
        · exact tops_0_less a1 w hx hy hz (by simpa using hz) T1 a0 hn
        · exact tops_1_less n a1 w (by simpa using h) h' hp2 hx hy hz (by simpa using hz) T1 a0 hn
end Go.Proofs.Ytodjiplbecpplaa
