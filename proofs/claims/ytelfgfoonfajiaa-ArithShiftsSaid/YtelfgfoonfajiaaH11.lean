/- Chapter 11: the walks of ArithTimes, ArithTwos. -/
import Derived.Test.YtelfgfoonfajiaaG11
namespace Go.Proofs.Ytelfgfoonfajiaa
open Go.RowKit
set_option linter.unusedVariables false

theorem no_at (j : Nat) (hj : j < 8) : ∃ s : Int, (∀ u : World, (u.alloc (.cells #[.int .i64 9, .int .i64 10, .int .i64 11, .int .i64 12, .int .i64 13, .int .i64 14, .int .i64 28, .int .i64 29] 3)).cell? ⟨u.heap.size, j, none⟩ = some (.int .i64 s)) ∧ kindE s 6 6 = 19 := by
  rcases (show j = 0 ∨ j = 1 ∨ j = 2 ∨ j = 3 ∨ j = 4 ∨ j = 5 ∨ j = 6 ∨ j = 7 by omega) with rfl | rfl | rfl | rfl | rfl | rfl | rfl | rfl
  · exact ⟨9, fun u => by simp [go_sem], rfl⟩
  · exact ⟨10, fun u => by simp [go_sem], rfl⟩
  · exact ⟨11, fun u => by simp [go_sem], rfl⟩
  · exact ⟨12, fun u => by simp [go_sem], rfl⟩
  · exact ⟨13, fun u => by simp [go_sem], rfl⟩
  · exact ⟨14, fun u => by simp [go_sem], rfl⟩
  · exact ⟨28, fun u => by simp [go_sem], rfl⟩
  · exact ⟨29, fun u => by simp [go_sem], rfl⟩

/-- Two at what it makes, said. -/
theorem two_to (s a b x y m e : Int) (w : World) (hm : twoM s a b x y = m) (he : twoE s a b y = e) : Calls Try.prog 19 #[.int .i64 s, .int .i64 a, .int .i64 b, .int .i64 x, .int .i64 y] w fun r w' =>
    r = .returned (.tuple #[.int .i64 m, .int .i64 e]) ∧ Below w.heap.size w w' := by subst hm; subst he; exact ptwo_any s a b x y w

set_option maxHeartbeats 4000000 in
theorem arithTimes_walk (x y s : Int) (w : World) (w0 : I64 x) (w1 : I64 y) (w2 : I64 s) :
    Calls Try.prog 8 #[.int .i64 x, .int .i64 y, .int .i64 s] w fun e w' => e = .returned (.bool true) ∧ Below w.heap.size w w' := by
  obtain ⟨hx1, hx2⟩ := w0
  obtain ⟨hy1, hy2⟩ := w1
  have HS := fun u => within_any s 8 (by decide) (by decide) u
  obtain ⟨j, hj⟩ : ∃ j : Nat, s % 8 = j := ⟨(s % 8).toNat, by omega⟩
  have hj8 : j < 8 := by omega
  rw [hj] at HS
  clear hj w2
  have HS := Lib.hid HS
  obtain ⟨σ, hσ, hk⟩ := no_at j hj8
  have hjl : (0 : Int) ≤ (j : Int) := by omega
  have hju : (j : Int) < 8 := by omega
  have T7 := fun u => two_to 7 6 6 x y (wrap64 (x + y)) 0 u (by simp [twoM, kindE, kindM, signK, fitsK, rawK, wrapK]) (by simp [twoE, kindE, signK, fitsK])
  have T8 := fun u => two_to 8 6 6 (wrap64 (x + y)) y x 0 u (by simp [twoM, kindE, kindM, signK, fitsK, rawK, wrapK]; unfold wrap64; omega) (by simp [twoE, kindE, signK, fitsK])
  have TN := fun u => two_to σ 6 6 x y 0 19 u (by simp [twoM, hk]) (by simp [twoE, hk])
  generalize wrap64 (x + y) = z at *
  have H7 := Lib.hid T7
  have H8 := Lib.hid T8
  have HN := Lib.hid TN
  clear T7 T8 TN hk
  rcases (show x < y ∨ x = y ∨ y < x by omega) with h | h | h
  · have H17 := Lib.hid (fun u => two_to 17 6 6 x y 1 0 u (by have h1 : x < y := by omega
                                                              simp [twoM, kindE, kindM, signK, fitsK, rawK, wrapK, h1]) (by simp [twoE, kindE, signK, fitsK]))
    have H16 := Lib.hid (fun u => two_to 16 6 6 x y 0 0 u (by have h1 : ¬ x = y := by omega
                                                              simp [twoM, kindE, kindM, signK, fitsK, rawK, wrapK, h1]) (by simp [twoE, kindE, signK, fitsK]))
    have he' : (x == y) = false := by simp; omega
    have hl' : decide (x < y) = true := by simp; omega
    clear h hx1 hx2 hy1 hy2
    go_enter Try.func8, Try.ntmps8
    go_wp2_with fail
    refine (known_any _).mono ?_
    rintro e u1 ⟨rfl, hb1⟩
    have HB1 := Lib.hid hb1
    clear hb1
    go_wp2_with fail
    refine (H7.out _).mono ?_
    rintro e u2 ⟨rfl, hb2⟩
    have HB2 := Lib.hid (HB1.out.trans (hb2.mono HB1.out.size))
    clear hb2 HB1
    go_wp2_with fail
    refine (H8.out _).mono ?_
    rintro e u3 ⟨rfl, hb3⟩
    have HB3 := Lib.hid (HB2.out.trans (hb3.mono HB2.out.size))
    clear hb3 HB2
    go_wp2_with fail
    refine (H17.out _).mono ?_
    rintro e u4 ⟨rfl, hb4⟩
    have HB4 := Lib.hid (HB3.out.trans (hb4.mono HB3.out.size))
    clear hb4 HB3
    go_wp2_with fail
    refine (H16.out _).mono ?_
    rintro e u5 ⟨rfl, hb5⟩
    have HB5 := Lib.hid (HB4.out.trans (hb5.mono HB4.out.size))
    clear hb5 HB4
    go_wp2_with fail
    refine (HS.out _).mono ?_
    rintro e _ ⟨rfl, rfl⟩
    go_wp2_with fail
    refine (HN.out _).mono ?_
    rintro e u6 ⟨rfl, hb6⟩
    have HB6 := Lib.hid ((HB5.out.alloc HB5.out.size _).trans (hb6.mono (by have := HB5.out.size; simp; omega)))
    clear hb6 HB5
    go_wp2
    go_ret
    exact ⟨rfl, HB6.out⟩
  · have H17 := Lib.hid (fun u => two_to 17 6 6 x y 0 0 u (by have h1 : ¬ x < y := by omega
                                                              simp [twoM, kindE, kindM, signK, fitsK, rawK, wrapK, h1]) (by simp [twoE, kindE, signK, fitsK]))
    have H16 := Lib.hid (fun u => two_to 16 6 6 x y 1 0 u (by have h1 : x = y := by omega
                                                              simp [twoM, kindE, kindM, signK, fitsK, rawK, wrapK, h1]) (by simp [twoE, kindE, signK, fitsK]))
    have he' : (x == y) = true := by simp; omega
    have hl' : decide (x < y) = false := by simp; omega
    clear h hx1 hx2 hy1 hy2
    go_enter Try.func8, Try.ntmps8
    go_wp2_with fail
    refine (known_any _).mono ?_
    rintro e u1 ⟨rfl, hb1⟩
    have HB1 := Lib.hid hb1
    clear hb1
    go_wp2_with fail
    refine (H7.out _).mono ?_
    rintro e u2 ⟨rfl, hb2⟩
    have HB2 := Lib.hid (HB1.out.trans (hb2.mono HB1.out.size))
    clear hb2 HB1
    go_wp2_with fail
    refine (H8.out _).mono ?_
    rintro e u3 ⟨rfl, hb3⟩
    have HB3 := Lib.hid (HB2.out.trans (hb3.mono HB2.out.size))
    clear hb3 HB2
    go_wp2_with fail
    refine (H17.out _).mono ?_
    rintro e u4 ⟨rfl, hb4⟩
    have HB4 := Lib.hid (HB3.out.trans (hb4.mono HB3.out.size))
    clear hb4 HB3
    go_wp2_with fail
    refine (H16.out _).mono ?_
    rintro e u5 ⟨rfl, hb5⟩
    have HB5 := Lib.hid (HB4.out.trans (hb5.mono HB4.out.size))
    clear hb5 HB4
    go_wp2_with fail
    refine (HS.out _).mono ?_
    rintro e _ ⟨rfl, rfl⟩
    go_wp2_with fail
    refine (HN.out _).mono ?_
    rintro e u6 ⟨rfl, hb6⟩
    have HB6 := Lib.hid ((HB5.out.alloc HB5.out.size _).trans (hb6.mono (by have := HB5.out.size; simp; omega)))
    clear hb6 HB5
    go_wp2
    go_ret
    exact ⟨rfl, HB6.out⟩
  · have H17 := Lib.hid (fun u => two_to 17 6 6 x y 0 0 u (by have h1 : ¬ x < y := by omega
                                                              simp [twoM, kindE, kindM, signK, fitsK, rawK, wrapK, h1]) (by simp [twoE, kindE, signK, fitsK]))
    have H16 := Lib.hid (fun u => two_to 16 6 6 x y 0 0 u (by have h1 : ¬ x = y := by omega
                                                              simp [twoM, kindE, kindM, signK, fitsK, rawK, wrapK, h1]) (by simp [twoE, kindE, signK, fitsK]))
    have he' : (x == y) = false := by simp; omega
    have hl' : decide (x < y) = false := by simp; omega
    clear h hx1 hx2 hy1 hy2
    go_enter Try.func8, Try.ntmps8
    go_wp2_with fail
    refine (known_any _).mono ?_
    rintro e u1 ⟨rfl, hb1⟩
    have HB1 := Lib.hid hb1
    clear hb1
    go_wp2_with fail
    refine (H7.out _).mono ?_
    rintro e u2 ⟨rfl, hb2⟩
    have HB2 := Lib.hid (HB1.out.trans (hb2.mono HB1.out.size))
    clear hb2 HB1
    go_wp2_with fail
    refine (H8.out _).mono ?_
    rintro e u3 ⟨rfl, hb3⟩
    have HB3 := Lib.hid (HB2.out.trans (hb3.mono HB2.out.size))
    clear hb3 HB2
    go_wp2_with fail
    refine (H17.out _).mono ?_
    rintro e u4 ⟨rfl, hb4⟩
    have HB4 := Lib.hid (HB3.out.trans (hb4.mono HB3.out.size))
    clear hb4 HB3
    go_wp2_with fail
    refine (H16.out _).mono ?_
    rintro e u5 ⟨rfl, hb5⟩
    have HB5 := Lib.hid (HB4.out.trans (hb5.mono HB4.out.size))
    clear hb5 HB4
    go_wp2_with fail
    refine (HS.out _).mono ?_
    rintro e _ ⟨rfl, rfl⟩
    go_wp2_with fail
    refine (HN.out _).mono ?_
    rintro e u6 ⟨rfl, hb6⟩
    have HB6 := Lib.hid ((HB5.out.alloc HB5.out.size _).trans (hb6.mono (by have := HB5.out.size; simp; omega)))
    clear hb6 HB5
    go_wp2
    go_ret
    exact ⟨rfl, HB6.out⟩

set_option maxHeartbeats 4000000 in
theorem twos_bad_n (which a x y p σ X Y m e km ke : Int) (j : Nat) (w : World) (hp0 : 0 ≤ p) (hp5 : p < 6) (hjl : (0 : Int) ≤ (j : Int)) (hju : (j : Int) < 12)
    (hσ : ∀ u : World, (u.alloc (.cells #[.int .i64 7, .int .i64 8, .int .i64 9, .int .i64 10, .int .i64 11, .int .i64 12, .int .i64 13, .int .i64 14, .int .i64 16, .int .i64 17, .int .i64 28, .int .i64 29] 3)).cell? ⟨u.heap.size, j, none⟩ = some (.int .i64 σ))
    (ha : ∀ u, Calls Try.prog 16 #[.int .i64 a, .int .i64 6] u fun e w' => e = .returned (.int .i64 p) ∧ u = w')
    (hs : ∀ u, Calls Try.prog 16 #[.int .i64 which, .int .i64 12] u fun e w' => e = .returned (.int .i64 j) ∧ u = w')
    (hx : ∀ u, Calls Try.prog 18 #[.int .i64 (1 + p), .int .i64 x] u fun e w' => e = .returned (.int .i64 X) ∧ u = w')
    (hy : ∀ u, Calls Try.prog 18 #[.int .i64 (1 + p), .int .i64 y] u fun e w' => e = .returned (.int .i64 Y) ∧ u = w')
    (hp : ∀ u, Calls Try.prog 19 #[.int .i64 σ, .int .i64 (1 + p), .int .i64 (1 + p), .int .i64 X, .int .i64 Y] u fun r w' => r = .returned (.tuple #[.int .i64 0, .int .i64 ke]) ∧ Below u.heap.size u w')
    (hr : ∀ u, Calls Try.prog 20 #[.int .i64 σ, .int .i64 (1 + p), .int .i64 (1 + p), .int .i64 X, .int .i64 Y] u fun r w' => r = .returned (.tuple #[.int .i64 0, .int .i64 ke]) ∧ u = w')
    (hk : ∀ u, Calls Try.prog 14 #[.int .i64 σ, .int .i64 (1 + p), .int .i64 (1 + p)] u fun r w' => r = .returned (.tuple #[.int .i64 0, .int .i64 ke]) ∧ Below u.heap.size u w') (f28 : (σ == 28) = false) (f29 : (σ == 29) = false) (fe : (ke == 0) = false) (fe' : (ke != 0) = true) :
    Calls Try.prog 4 #[.int .i64 which, .int .i64 a, .int .i64 x, .int .i64 y] w fun e w' => e = .returned (.bool true) ∧ Below w.heap.size w w' := by
  have HA := Lib.hid ha
  have HS := Lib.hid hs
  have HX := Lib.hid hx
  have HY := Lib.hid hy
  have HP := Lib.hid hp
  have HR := Lib.hid hr
  have HK := Lib.hid hk
  clear ha hs hx hy hp hr hk
  go_enter Try.func4, Try.ntmps4
  go_wp2_with (first
      | (go_at_call 13; (with_reducible refine (known_any _).mono ?_); rintro e u1 ⟨rfl, hb⟩; have HB := Lib.hid hb; have hz1 : w.heap.size ≤ u1.heap.size := hb.size; clear hb)
      | (go_at_call 16; (with_reducible refine (HA.out _).mono ?_); rintro e _ ⟨rfl, rfl⟩)
      | (go_at_call 16; (with_reducible refine (HS.out _).mono ?_); rintro e _ ⟨rfl, rfl⟩)
      | (go_at_call 17; (with_reducible refine (signs_any _).mono ?_); rintro e _ ⟨rfl, rfl⟩)
      | (go_at_call 18; (with_reducible refine (HX.out _).mono ?_); rintro e _ ⟨rfl, rfl⟩)
      | (go_at_call 18; (with_reducible refine (HY.out _).mono ?_); rintro e _ ⟨rfl, rfl⟩)
      | (go_at_call 19; (with_reducible refine (HP.out _).mono ?_); rintro e u2 ⟨rfl, hb2⟩; have HB2 := Lib.hid ((HB.out.alloc hz1 _).trans (hb2.mono (by simp; omega))); clear hb2)
      | (go_at_call 20; (with_reducible refine (HR.out _).mono ?_); rintro e _ ⟨rfl, rfl⟩)
      | (go_at_call 14; (with_reducible refine (HK.out _).mono ?_); rintro e u3 ⟨rfl, hb3⟩; have HB3 := Lib.hid (HB2.out.trans (hb3.mono HB2.out.size)); clear hb3))
  go_ret
  exact ⟨rfl, HB3.out⟩

set_option maxHeartbeats 4000000 in
theorem twos_fine_n (which a x y p σ X Y m e km ke : Int) (j : Nat) (w : World) (hp0 : 0 ≤ p) (hp5 : p < 6) (hjl : (0 : Int) ≤ (j : Int)) (hju : (j : Int) < 12)
    (hσ : ∀ u : World, (u.alloc (.cells #[.int .i64 7, .int .i64 8, .int .i64 9, .int .i64 10, .int .i64 11, .int .i64 12, .int .i64 13, .int .i64 14, .int .i64 16, .int .i64 17, .int .i64 28, .int .i64 29] 3)).cell? ⟨u.heap.size, j, none⟩ = some (.int .i64 σ))
    (ha : ∀ u, Calls Try.prog 16 #[.int .i64 a, .int .i64 6] u fun e w' => e = .returned (.int .i64 p) ∧ u = w')
    (hs : ∀ u, Calls Try.prog 16 #[.int .i64 which, .int .i64 12] u fun e w' => e = .returned (.int .i64 j) ∧ u = w')
    (hx : ∀ u, Calls Try.prog 18 #[.int .i64 (1 + p), .int .i64 x] u fun e w' => e = .returned (.int .i64 X) ∧ u = w')
    (hy : ∀ u, Calls Try.prog 18 #[.int .i64 (1 + p), .int .i64 y] u fun e w' => e = .returned (.int .i64 Y) ∧ u = w')
    (hp : ∀ u, Calls Try.prog 19 #[.int .i64 σ, .int .i64 (1 + p), .int .i64 (1 + p), .int .i64 X, .int .i64 Y] u fun r w' => r = .returned (.tuple #[.int .i64 m, .int .i64 0]) ∧ Below u.heap.size u w')
    (hr : ∀ u, Calls Try.prog 20 #[.int .i64 σ, .int .i64 (1 + p), .int .i64 (1 + p), .int .i64 X, .int .i64 Y] u fun r w' => r = .returned (.tuple #[.int .i64 m, .int .i64 0]) ∧ u = w')
    (hk : ∀ u, Calls Try.prog 14 #[.int .i64 σ, .int .i64 (1 + p), .int .i64 (1 + p)] u fun r w' => r = .returned (.tuple #[.int .i64 km, .int .i64 0]) ∧ Below u.heap.size u w') (f28 : (σ == 28) = false) (f29 : (σ == 29) = false) (fw : wrapK km m = m) :
    Calls Try.prog 4 #[.int .i64 which, .int .i64 a, .int .i64 x, .int .i64 y] w fun e w' => e = .returned (.bool true) ∧ Below w.heap.size w w' := by
  have HA := Lib.hid ha
  have HS := Lib.hid hs
  have HX := Lib.hid hx
  have HY := Lib.hid hy
  have HP := Lib.hid hp
  have HR := Lib.hid hr
  have HK := Lib.hid hk
  clear ha hs hx hy hp hr hk
  go_enter Try.func4, Try.ntmps4
  go_wp2_with (first
      | (go_at_call 13; (with_reducible refine (known_any _).mono ?_); rintro e u1 ⟨rfl, hb⟩; have HB := Lib.hid hb; have hz1 : w.heap.size ≤ u1.heap.size := hb.size; clear hb)
      | (go_at_call 16; (with_reducible refine (HA.out _).mono ?_); rintro e _ ⟨rfl, rfl⟩)
      | (go_at_call 16; (with_reducible refine (HS.out _).mono ?_); rintro e _ ⟨rfl, rfl⟩)
      | (go_at_call 17; (with_reducible refine (signs_any _).mono ?_); rintro e _ ⟨rfl, rfl⟩)
      | (go_at_call 18; (with_reducible refine (HX.out _).mono ?_); rintro e _ ⟨rfl, rfl⟩)
      | (go_at_call 18; (with_reducible refine (HY.out _).mono ?_); rintro e _ ⟨rfl, rfl⟩)
      | (go_at_call 19; (with_reducible refine (HP.out _).mono ?_); rintro e u2 ⟨rfl, hb2⟩; have HB2 := Lib.hid ((HB.out.alloc hz1 _).trans (hb2.mono (by simp; omega))); clear hb2)
      | (go_at_call 20; (with_reducible refine (HR.out _).mono ?_); rintro e _ ⟨rfl, rfl⟩)
      | (go_at_call 14; (with_reducible refine (HK.out _).mono ?_); rintro e u3 ⟨rfl, hb3⟩; have HB3 := Lib.hid (HB2.out.trans (hb3.mono HB2.out.size)); clear hb3) | (go_at_call 18; (with_reducible refine (rwrap_any _ _ _).mono ?_); rintro e _ ⟨rfl, rfl⟩))
  go_ret
  exact ⟨rfl, HB3.out⟩

set_option maxHeartbeats 4000000 in
theorem twos_bad_l (which a x y p σ X Y m e km ke : Int) (j : Nat) (w : World) (hp0 : 0 ≤ p) (hp5 : p < 6) (hjl : (0 : Int) ≤ (j : Int)) (hju : (j : Int) < 12)
    (hσ : ∀ u : World, (u.alloc (.cells #[.int .i64 7, .int .i64 8, .int .i64 9, .int .i64 10, .int .i64 11, .int .i64 12, .int .i64 13, .int .i64 14, .int .i64 16, .int .i64 17, .int .i64 28, .int .i64 29] 3)).cell? ⟨u.heap.size, j, none⟩ = some (.int .i64 28))
    (ha : ∀ u, Calls Try.prog 16 #[.int .i64 a, .int .i64 6] u fun e w' => e = .returned (.int .i64 p) ∧ u = w')
    (hs : ∀ u, Calls Try.prog 16 #[.int .i64 which, .int .i64 12] u fun e w' => e = .returned (.int .i64 j) ∧ u = w')
    (hx : ∀ u, Calls Try.prog 18 #[.int .i64 (1 + p), .int .i64 x] u fun e w' => e = .returned (.int .i64 X) ∧ u = w')
    (hy : ∀ u, Calls Try.prog 18 #[.int .i64 5, .int .i64 y] u fun e w' => e = .returned (.int .i64 Y) ∧ u = w')
    (hp : ∀ u, Calls Try.prog 19 #[.int .i64 28, .int .i64 (1 + p), .int .i64 5, .int .i64 X, .int .i64 Y] u fun r w' => r = .returned (.tuple #[.int .i64 0, .int .i64 ke]) ∧ Below u.heap.size u w')
    (hr : ∀ u, Calls Try.prog 20 #[.int .i64 28, .int .i64 (1 + p), .int .i64 5, .int .i64 X, .int .i64 Y] u fun r w' => r = .returned (.tuple #[.int .i64 0, .int .i64 ke]) ∧ u = w')
    (hk : ∀ u, Calls Try.prog 14 #[.int .i64 28, .int .i64 (1 + p), .int .i64 5] u fun r w' => r = .returned (.tuple #[.int .i64 0, .int .i64 ke]) ∧ Below u.heap.size u w') (fe : (ke == 0) = false) (fe' : (ke != 0) = true) :
    Calls Try.prog 4 #[.int .i64 which, .int .i64 a, .int .i64 x, .int .i64 y] w fun e w' => e = .returned (.bool true) ∧ Below w.heap.size w w' := by
  have HA := Lib.hid ha
  have HS := Lib.hid hs
  have HX := Lib.hid hx
  have HY := Lib.hid hy
  have HP := Lib.hid hp
  have HR := Lib.hid hr
  have HK := Lib.hid hk
  clear ha hs hx hy hp hr hk
  go_enter Try.func4, Try.ntmps4
  go_wp2_with (first
      | (go_at_call 13; (with_reducible refine (known_any _).mono ?_); rintro e u1 ⟨rfl, hb⟩; have HB := Lib.hid hb; have hz1 : w.heap.size ≤ u1.heap.size := hb.size; clear hb)
      | (go_at_call 16; (with_reducible refine (HA.out _).mono ?_); rintro e _ ⟨rfl, rfl⟩)
      | (go_at_call 16; (with_reducible refine (HS.out _).mono ?_); rintro e _ ⟨rfl, rfl⟩)
      | (go_at_call 17; (with_reducible refine (signs_any _).mono ?_); rintro e _ ⟨rfl, rfl⟩)
      | (go_at_call 18; (with_reducible refine (HX.out _).mono ?_); rintro e _ ⟨rfl, rfl⟩)
      | (go_at_call 18; (with_reducible refine (HY.out _).mono ?_); rintro e _ ⟨rfl, rfl⟩)
      | (go_at_call 19; (with_reducible refine (HP.out _).mono ?_); rintro e u2 ⟨rfl, hb2⟩; have HB2 := Lib.hid ((HB.out.alloc hz1 _).trans (hb2.mono (by simp; omega))); clear hb2)
      | (go_at_call 20; (with_reducible refine (HR.out _).mono ?_); rintro e _ ⟨rfl, rfl⟩)
      | (go_at_call 14; (with_reducible refine (HK.out _).mono ?_); rintro e u3 ⟨rfl, hb3⟩; have HB3 := Lib.hid (HB2.out.trans (hb3.mono HB2.out.size)); clear hb3))
  go_ret
  exact ⟨rfl, HB3.out⟩

set_option maxHeartbeats 4000000 in
theorem twos_fine_l (which a x y p σ X Y m e km ke : Int) (j : Nat) (w : World) (hp0 : 0 ≤ p) (hp5 : p < 6) (hjl : (0 : Int) ≤ (j : Int)) (hju : (j : Int) < 12)
    (hσ : ∀ u : World, (u.alloc (.cells #[.int .i64 7, .int .i64 8, .int .i64 9, .int .i64 10, .int .i64 11, .int .i64 12, .int .i64 13, .int .i64 14, .int .i64 16, .int .i64 17, .int .i64 28, .int .i64 29] 3)).cell? ⟨u.heap.size, j, none⟩ = some (.int .i64 28))
    (ha : ∀ u, Calls Try.prog 16 #[.int .i64 a, .int .i64 6] u fun e w' => e = .returned (.int .i64 p) ∧ u = w')
    (hs : ∀ u, Calls Try.prog 16 #[.int .i64 which, .int .i64 12] u fun e w' => e = .returned (.int .i64 j) ∧ u = w')
    (hx : ∀ u, Calls Try.prog 18 #[.int .i64 (1 + p), .int .i64 x] u fun e w' => e = .returned (.int .i64 X) ∧ u = w')
    (hy : ∀ u, Calls Try.prog 18 #[.int .i64 5, .int .i64 y] u fun e w' => e = .returned (.int .i64 Y) ∧ u = w')
    (hp : ∀ u, Calls Try.prog 19 #[.int .i64 28, .int .i64 (1 + p), .int .i64 5, .int .i64 X, .int .i64 Y] u fun r w' => r = .returned (.tuple #[.int .i64 m, .int .i64 0]) ∧ Below u.heap.size u w')
    (hr : ∀ u, Calls Try.prog 20 #[.int .i64 28, .int .i64 (1 + p), .int .i64 5, .int .i64 X, .int .i64 Y] u fun r w' => r = .returned (.tuple #[.int .i64 m, .int .i64 0]) ∧ u = w')
    (hk : ∀ u, Calls Try.prog 14 #[.int .i64 28, .int .i64 (1 + p), .int .i64 5] u fun r w' => r = .returned (.tuple #[.int .i64 km, .int .i64 0]) ∧ Below u.heap.size u w') (fw : wrapK km m = m) :
    Calls Try.prog 4 #[.int .i64 which, .int .i64 a, .int .i64 x, .int .i64 y] w fun e w' => e = .returned (.bool true) ∧ Below w.heap.size w w' := by
  have HA := Lib.hid ha
  have HS := Lib.hid hs
  have HX := Lib.hid hx
  have HY := Lib.hid hy
  have HP := Lib.hid hp
  have HR := Lib.hid hr
  have HK := Lib.hid hk
  clear ha hs hx hy hp hr hk
  go_enter Try.func4, Try.ntmps4
  go_wp2_with (first
      | (go_at_call 13; (with_reducible refine (known_any _).mono ?_); rintro e u1 ⟨rfl, hb⟩; have HB := Lib.hid hb; have hz1 : w.heap.size ≤ u1.heap.size := hb.size; clear hb)
      | (go_at_call 16; (with_reducible refine (HA.out _).mono ?_); rintro e _ ⟨rfl, rfl⟩)
      | (go_at_call 16; (with_reducible refine (HS.out _).mono ?_); rintro e _ ⟨rfl, rfl⟩)
      | (go_at_call 17; (with_reducible refine (signs_any _).mono ?_); rintro e _ ⟨rfl, rfl⟩)
      | (go_at_call 18; (with_reducible refine (HX.out _).mono ?_); rintro e _ ⟨rfl, rfl⟩)
      | (go_at_call 18; (with_reducible refine (HY.out _).mono ?_); rintro e _ ⟨rfl, rfl⟩)
      | (go_at_call 19; (with_reducible refine (HP.out _).mono ?_); rintro e u2 ⟨rfl, hb2⟩; have HB2 := Lib.hid ((HB.out.alloc hz1 _).trans (hb2.mono (by simp; omega))); clear hb2)
      | (go_at_call 20; (with_reducible refine (HR.out _).mono ?_); rintro e _ ⟨rfl, rfl⟩)
      | (go_at_call 14; (with_reducible refine (HK.out _).mono ?_); rintro e u3 ⟨rfl, hb3⟩; have HB3 := Lib.hid (HB2.out.trans (hb3.mono HB2.out.size)); clear hb3) | (go_at_call 18; (with_reducible refine (rwrap_any _ _ _).mono ?_); rintro e _ ⟨rfl, rfl⟩))
  go_ret
  exact ⟨rfl, HB3.out⟩

set_option maxHeartbeats 4000000 in
theorem twos_bad_r (which a x y p σ X Y m e km ke : Int) (j : Nat) (w : World) (hp0 : 0 ≤ p) (hp5 : p < 6) (hjl : (0 : Int) ≤ (j : Int)) (hju : (j : Int) < 12)
    (hσ : ∀ u : World, (u.alloc (.cells #[.int .i64 7, .int .i64 8, .int .i64 9, .int .i64 10, .int .i64 11, .int .i64 12, .int .i64 13, .int .i64 14, .int .i64 16, .int .i64 17, .int .i64 28, .int .i64 29] 3)).cell? ⟨u.heap.size, j, none⟩ = some (.int .i64 29))
    (ha : ∀ u, Calls Try.prog 16 #[.int .i64 a, .int .i64 6] u fun e w' => e = .returned (.int .i64 p) ∧ u = w')
    (hs : ∀ u, Calls Try.prog 16 #[.int .i64 which, .int .i64 12] u fun e w' => e = .returned (.int .i64 j) ∧ u = w')
    (hx : ∀ u, Calls Try.prog 18 #[.int .i64 (1 + p), .int .i64 x] u fun e w' => e = .returned (.int .i64 X) ∧ u = w')
    (hy : ∀ u, Calls Try.prog 18 #[.int .i64 5, .int .i64 y] u fun e w' => e = .returned (.int .i64 Y) ∧ u = w')
    (hp : ∀ u, Calls Try.prog 19 #[.int .i64 29, .int .i64 (1 + p), .int .i64 5, .int .i64 X, .int .i64 Y] u fun r w' => r = .returned (.tuple #[.int .i64 0, .int .i64 ke]) ∧ Below u.heap.size u w')
    (hr : ∀ u, Calls Try.prog 20 #[.int .i64 29, .int .i64 (1 + p), .int .i64 5, .int .i64 X, .int .i64 Y] u fun r w' => r = .returned (.tuple #[.int .i64 0, .int .i64 ke]) ∧ u = w')
    (hk : ∀ u, Calls Try.prog 14 #[.int .i64 29, .int .i64 (1 + p), .int .i64 5] u fun r w' => r = .returned (.tuple #[.int .i64 0, .int .i64 ke]) ∧ Below u.heap.size u w') (fe : (ke == 0) = false) (fe' : (ke != 0) = true) :
    Calls Try.prog 4 #[.int .i64 which, .int .i64 a, .int .i64 x, .int .i64 y] w fun e w' => e = .returned (.bool true) ∧ Below w.heap.size w w' := by
  have HA := Lib.hid ha
  have HS := Lib.hid hs
  have HX := Lib.hid hx
  have HY := Lib.hid hy
  have HP := Lib.hid hp
  have HR := Lib.hid hr
  have HK := Lib.hid hk
  clear ha hs hx hy hp hr hk
  go_enter Try.func4, Try.ntmps4
  go_wp2_with (first
      | (go_at_call 13; (with_reducible refine (known_any _).mono ?_); rintro e u1 ⟨rfl, hb⟩; have HB := Lib.hid hb; have hz1 : w.heap.size ≤ u1.heap.size := hb.size; clear hb)
      | (go_at_call 16; (with_reducible refine (HA.out _).mono ?_); rintro e _ ⟨rfl, rfl⟩)
      | (go_at_call 16; (with_reducible refine (HS.out _).mono ?_); rintro e _ ⟨rfl, rfl⟩)
      | (go_at_call 17; (with_reducible refine (signs_any _).mono ?_); rintro e _ ⟨rfl, rfl⟩)
      | (go_at_call 18; (with_reducible refine (HX.out _).mono ?_); rintro e _ ⟨rfl, rfl⟩)
      | (go_at_call 18; (with_reducible refine (HY.out _).mono ?_); rintro e _ ⟨rfl, rfl⟩)
      | (go_at_call 19; (with_reducible refine (HP.out _).mono ?_); rintro e u2 ⟨rfl, hb2⟩; have HB2 := Lib.hid ((HB.out.alloc hz1 _).trans (hb2.mono (by simp; omega))); clear hb2)
      | (go_at_call 20; (with_reducible refine (HR.out _).mono ?_); rintro e _ ⟨rfl, rfl⟩)
      | (go_at_call 14; (with_reducible refine (HK.out _).mono ?_); rintro e u3 ⟨rfl, hb3⟩; have HB3 := Lib.hid (HB2.out.trans (hb3.mono HB2.out.size)); clear hb3))
  go_ret
  exact ⟨rfl, HB3.out⟩

set_option maxHeartbeats 4000000 in
theorem twos_fine_r (which a x y p σ X Y m e km ke : Int) (j : Nat) (w : World) (hp0 : 0 ≤ p) (hp5 : p < 6) (hjl : (0 : Int) ≤ (j : Int)) (hju : (j : Int) < 12)
    (hσ : ∀ u : World, (u.alloc (.cells #[.int .i64 7, .int .i64 8, .int .i64 9, .int .i64 10, .int .i64 11, .int .i64 12, .int .i64 13, .int .i64 14, .int .i64 16, .int .i64 17, .int .i64 28, .int .i64 29] 3)).cell? ⟨u.heap.size, j, none⟩ = some (.int .i64 29))
    (ha : ∀ u, Calls Try.prog 16 #[.int .i64 a, .int .i64 6] u fun e w' => e = .returned (.int .i64 p) ∧ u = w')
    (hs : ∀ u, Calls Try.prog 16 #[.int .i64 which, .int .i64 12] u fun e w' => e = .returned (.int .i64 j) ∧ u = w')
    (hx : ∀ u, Calls Try.prog 18 #[.int .i64 (1 + p), .int .i64 x] u fun e w' => e = .returned (.int .i64 X) ∧ u = w')
    (hy : ∀ u, Calls Try.prog 18 #[.int .i64 5, .int .i64 y] u fun e w' => e = .returned (.int .i64 Y) ∧ u = w')
    (hp : ∀ u, Calls Try.prog 19 #[.int .i64 29, .int .i64 (1 + p), .int .i64 5, .int .i64 X, .int .i64 Y] u fun r w' => r = .returned (.tuple #[.int .i64 m, .int .i64 0]) ∧ Below u.heap.size u w')
    (hr : ∀ u, Calls Try.prog 20 #[.int .i64 29, .int .i64 (1 + p), .int .i64 5, .int .i64 X, .int .i64 Y] u fun r w' => r = .returned (.tuple #[.int .i64 m, .int .i64 0]) ∧ u = w')
    (hk : ∀ u, Calls Try.prog 14 #[.int .i64 29, .int .i64 (1 + p), .int .i64 5] u fun r w' => r = .returned (.tuple #[.int .i64 km, .int .i64 0]) ∧ Below u.heap.size u w') (fw : wrapK km m = m) :
    Calls Try.prog 4 #[.int .i64 which, .int .i64 a, .int .i64 x, .int .i64 y] w fun e w' => e = .returned (.bool true) ∧ Below w.heap.size w w' := by
  have HA := Lib.hid ha
  have HS := Lib.hid hs
  have HX := Lib.hid hx
  have HY := Lib.hid hy
  have HP := Lib.hid hp
  have HR := Lib.hid hr
  have HK := Lib.hid hk
  clear ha hs hx hy hp hr hk
  go_enter Try.func4, Try.ntmps4
  go_wp2_with (first
      | (go_at_call 13; (with_reducible refine (known_any _).mono ?_); rintro e u1 ⟨rfl, hb⟩; have HB := Lib.hid hb; have hz1 : w.heap.size ≤ u1.heap.size := hb.size; clear hb)
      | (go_at_call 16; (with_reducible refine (HA.out _).mono ?_); rintro e _ ⟨rfl, rfl⟩)
      | (go_at_call 16; (with_reducible refine (HS.out _).mono ?_); rintro e _ ⟨rfl, rfl⟩)
      | (go_at_call 17; (with_reducible refine (signs_any _).mono ?_); rintro e _ ⟨rfl, rfl⟩)
      | (go_at_call 18; (with_reducible refine (HX.out _).mono ?_); rintro e _ ⟨rfl, rfl⟩)
      | (go_at_call 18; (with_reducible refine (HY.out _).mono ?_); rintro e _ ⟨rfl, rfl⟩)
      | (go_at_call 19; (with_reducible refine (HP.out _).mono ?_); rintro e u2 ⟨rfl, hb2⟩; have HB2 := Lib.hid ((HB.out.alloc hz1 _).trans (hb2.mono (by simp; omega))); clear hb2)
      | (go_at_call 20; (with_reducible refine (HR.out _).mono ?_); rintro e _ ⟨rfl, rfl⟩)
      | (go_at_call 14; (with_reducible refine (HK.out _).mono ?_); rintro e u3 ⟨rfl, hb3⟩; have HB3 := Lib.hid (HB2.out.trans (hb3.mono HB2.out.size)); clear hb3) | (go_at_call 18; (with_reducible refine (rwrap_any _ _ _).mono ?_); rintro e _ ⟨rfl, rfl⟩))
  go_ret
  exact ⟨rfl, HB3.out⟩

set_option maxHeartbeats 4000000 in
theorem twos_div_10 (which a x y p σ X Y m e km ke : Int) (j : Nat) (w : World) (hp0 : 0 ≤ p) (hp5 : p < 6) (hjl : (0 : Int) ≤ (j : Int)) (hju : (j : Int) < 12)
    (hσ : ∀ u : World, (u.alloc (.cells #[.int .i64 7, .int .i64 8, .int .i64 9, .int .i64 10, .int .i64 11, .int .i64 12, .int .i64 13, .int .i64 14, .int .i64 16, .int .i64 17, .int .i64 28, .int .i64 29] 3)).cell? ⟨u.heap.size, j, none⟩ = some (.int .i64 10))
    (ha : ∀ u, Calls Try.prog 16 #[.int .i64 a, .int .i64 6] u fun e w' => e = .returned (.int .i64 p) ∧ u = w')
    (hs : ∀ u, Calls Try.prog 16 #[.int .i64 which, .int .i64 12] u fun e w' => e = .returned (.int .i64 j) ∧ u = w')
    (hx : ∀ u, Calls Try.prog 18 #[.int .i64 (1 + p), .int .i64 x] u fun e w' => e = .returned (.int .i64 X) ∧ u = w')
    (hy : ∀ u, Calls Try.prog 18 #[.int .i64 (1 + p), .int .i64 y] u fun e w' => e = .returned (.int .i64 0) ∧ u = w')
    (hp : ∀ u, Calls Try.prog 19 #[.int .i64 10, .int .i64 (1 + p), .int .i64 (1 + p), .int .i64 X, .int .i64 0] u fun r w' => r = .returned (.tuple #[.int .i64 0, .int .i64 21]) ∧ Below u.heap.size u w')
    (hr : ∀ u, Calls Try.prog 20 #[.int .i64 10, .int .i64 (1 + p), .int .i64 (1 + p), .int .i64 X, .int .i64 0] u fun r w' => r = .returned (.tuple #[.int .i64 0, .int .i64 21]) ∧ u = w')
    (hk : ∀ u, Calls Try.prog 14 #[.int .i64 10, .int .i64 (1 + p), .int .i64 (1 + p)] u fun r w' => r = .returned (.tuple #[.int .i64 km, .int .i64 0]) ∧ Below u.heap.size u w') :
    Calls Try.prog 4 #[.int .i64 which, .int .i64 a, .int .i64 x, .int .i64 y] w fun e w' => e = .returned (.bool true) ∧ Below w.heap.size w w' := by
  have HA := Lib.hid ha
  have HS := Lib.hid hs
  have HX := Lib.hid hx
  have HY := Lib.hid hy
  have HP := Lib.hid hp
  have HR := Lib.hid hr
  have HK := Lib.hid hk
  clear ha hs hx hy hp hr hk
  go_enter Try.func4, Try.ntmps4
  go_wp2_with (first
      | (go_at_call 13; (with_reducible refine (known_any _).mono ?_); rintro e u1 ⟨rfl, hb⟩; have HB := Lib.hid hb; have hz1 : w.heap.size ≤ u1.heap.size := hb.size; clear hb)
      | (go_at_call 16; (with_reducible refine (HA.out _).mono ?_); rintro e _ ⟨rfl, rfl⟩)
      | (go_at_call 16; (with_reducible refine (HS.out _).mono ?_); rintro e _ ⟨rfl, rfl⟩)
      | (go_at_call 17; (with_reducible refine (signs_any _).mono ?_); rintro e _ ⟨rfl, rfl⟩)
      | (go_at_call 18; (with_reducible refine (HX.out _).mono ?_); rintro e _ ⟨rfl, rfl⟩)
      | (go_at_call 18; (with_reducible refine (HY.out _).mono ?_); rintro e _ ⟨rfl, rfl⟩)
      | (go_at_call 19; (with_reducible refine (HP.out _).mono ?_); rintro e u2 ⟨rfl, hb2⟩; have HB2 := Lib.hid ((HB.out.alloc hz1 _).trans (hb2.mono (by simp; omega))); clear hb2)
      | (go_at_call 20; (with_reducible refine (HR.out _).mono ?_); rintro e _ ⟨rfl, rfl⟩)
      | (go_at_call 14; (with_reducible refine (HK.out _).mono ?_); rintro e u3 ⟨rfl, hb3⟩; have HB3 := Lib.hid (HB2.out.trans (hb3.mono HB2.out.size)); clear hb3) | (go_at_call 18; (with_reducible refine (rwrap_any _ _ _).mono ?_); rintro e _ ⟨rfl, rfl⟩))
  go_ret
  exact ⟨rfl, HB3.out⟩

set_option maxHeartbeats 4000000 in
theorem twos_div_11 (which a x y p σ X Y m e km ke : Int) (j : Nat) (w : World) (hp0 : 0 ≤ p) (hp5 : p < 6) (hjl : (0 : Int) ≤ (j : Int)) (hju : (j : Int) < 12)
    (hσ : ∀ u : World, (u.alloc (.cells #[.int .i64 7, .int .i64 8, .int .i64 9, .int .i64 10, .int .i64 11, .int .i64 12, .int .i64 13, .int .i64 14, .int .i64 16, .int .i64 17, .int .i64 28, .int .i64 29] 3)).cell? ⟨u.heap.size, j, none⟩ = some (.int .i64 11))
    (ha : ∀ u, Calls Try.prog 16 #[.int .i64 a, .int .i64 6] u fun e w' => e = .returned (.int .i64 p) ∧ u = w')
    (hs : ∀ u, Calls Try.prog 16 #[.int .i64 which, .int .i64 12] u fun e w' => e = .returned (.int .i64 j) ∧ u = w')
    (hx : ∀ u, Calls Try.prog 18 #[.int .i64 (1 + p), .int .i64 x] u fun e w' => e = .returned (.int .i64 X) ∧ u = w')
    (hy : ∀ u, Calls Try.prog 18 #[.int .i64 (1 + p), .int .i64 y] u fun e w' => e = .returned (.int .i64 0) ∧ u = w')
    (hp : ∀ u, Calls Try.prog 19 #[.int .i64 11, .int .i64 (1 + p), .int .i64 (1 + p), .int .i64 X, .int .i64 0] u fun r w' => r = .returned (.tuple #[.int .i64 0, .int .i64 21]) ∧ Below u.heap.size u w')
    (hr : ∀ u, Calls Try.prog 20 #[.int .i64 11, .int .i64 (1 + p), .int .i64 (1 + p), .int .i64 X, .int .i64 0] u fun r w' => r = .returned (.tuple #[.int .i64 0, .int .i64 21]) ∧ u = w')
    (hk : ∀ u, Calls Try.prog 14 #[.int .i64 11, .int .i64 (1 + p), .int .i64 (1 + p)] u fun r w' => r = .returned (.tuple #[.int .i64 km, .int .i64 0]) ∧ Below u.heap.size u w') :
    Calls Try.prog 4 #[.int .i64 which, .int .i64 a, .int .i64 x, .int .i64 y] w fun e w' => e = .returned (.bool true) ∧ Below w.heap.size w w' := by
  have HA := Lib.hid ha
  have HS := Lib.hid hs
  have HX := Lib.hid hx
  have HY := Lib.hid hy
  have HP := Lib.hid hp
  have HR := Lib.hid hr
  have HK := Lib.hid hk
  clear ha hs hx hy hp hr hk
  go_enter Try.func4, Try.ntmps4
  go_wp2_with (first
      | (go_at_call 13; (with_reducible refine (known_any _).mono ?_); rintro e u1 ⟨rfl, hb⟩; have HB := Lib.hid hb; have hz1 : w.heap.size ≤ u1.heap.size := hb.size; clear hb)
      | (go_at_call 16; (with_reducible refine (HA.out _).mono ?_); rintro e _ ⟨rfl, rfl⟩)
      | (go_at_call 16; (with_reducible refine (HS.out _).mono ?_); rintro e _ ⟨rfl, rfl⟩)
      | (go_at_call 17; (with_reducible refine (signs_any _).mono ?_); rintro e _ ⟨rfl, rfl⟩)
      | (go_at_call 18; (with_reducible refine (HX.out _).mono ?_); rintro e _ ⟨rfl, rfl⟩)
      | (go_at_call 18; (with_reducible refine (HY.out _).mono ?_); rintro e _ ⟨rfl, rfl⟩)
      | (go_at_call 19; (with_reducible refine (HP.out _).mono ?_); rintro e u2 ⟨rfl, hb2⟩; have HB2 := Lib.hid ((HB.out.alloc hz1 _).trans (hb2.mono (by simp; omega))); clear hb2)
      | (go_at_call 20; (with_reducible refine (HR.out _).mono ?_); rintro e _ ⟨rfl, rfl⟩)
      | (go_at_call 14; (with_reducible refine (HK.out _).mono ?_); rintro e u3 ⟨rfl, hb3⟩; have HB3 := Lib.hid (HB2.out.trans (hb3.mono HB2.out.size)); clear hb3) | (go_at_call 18; (with_reducible refine (rwrap_any _ _ _).mono ?_); rintro e _ ⟨rfl, rfl⟩))
  go_ret
  exact ⟨rfl, HB3.out⟩

theorem arithTwos_walk (which a x y : Int) (w : World) (w0 : I64 which) (w1 : I64 a) (w2 : I64 x) (w3 : I64 y) :
    Calls Try.prog 4 #[.int .i64 which, .int .i64 a, .int .i64 x, .int .i64 y] w fun e w' => e = .returned (.bool true) ∧ Below w.heap.size w w' := by
  have HA := fun u => within_any a 6 (by decide) (by decide) u
  have HS := fun u => within_any which 12 (by decide) (by decide) u
  have hp0 : 0 ≤ a % 6 := by omega
  have hp5 : a % 6 < 6 := by omega
  obtain ⟨j, hj⟩ : ∃ j : Nat, which % 12 = j := ⟨(which % 12).toNat, by omega⟩
  have hj12 : j < 12 := by omega
  rw [hj] at HS
  generalize a % 6 = p at *
  obtain ⟨σ, hσ, hsg, h3⟩ := sign_at j hj12
  have hjl : (0 : Int) ≤ (j : Int) := by omega
  have hju : (j : Int) < 12 := by omega
  have HX := fun u => rwrap_any (1 + p) x u
  by_cases hns : σ ≠ 28 ∧ σ ≠ 29
  · have f28 : (σ == 28) = false := by simpa using hns.1
    have f29 : (σ == 29) = false := by simpa using hns.2
    have HY := fun u => rwrap_any (1 + p) y u
    have HP := fun u => ptwo_any σ (1 + p) (1 + p) (wrapK (1 + p) x) (wrapK (1 + p) y) u
    have HR := fun u => rtwo_any σ (1 + p) (1 + p) (wrapK (1 + p) x) (wrapK (1 + p) y) u
    have HK := fun u => pkind_any σ (1 + p) (1 + p) u
    by_cases he : kindE σ (1 + p) (1 + p) = 0
    · by_cases hd : (σ = 10 ∨ σ = 11) ∧ wrapK (1 + p) y = 0
      · rw [show twoM σ (1 + p) (1 + p) (wrapK (1 + p) x) (wrapK (1 + p) y) = 0 by simp [twoM, he, hd], show twoE σ (1 + p) (1 + p) (wrapK (1 + p) y) = 21 by simp [twoE, he, hd]] at HP HR
        rw [he] at HK
        obtain ⟨hs, hy⟩ := hd
        rw [hy] at HY HP HR
        rcases hs with rfl | rfl
        · exact twos_div_10 which a x y p 0 _ 0 0 0 _ 0 j w hp0 hp5 hjl hju hσ HA HS HX HY HP HR HK
        · exact twos_div_11 which a x y p 0 _ 0 0 0 _ 0 j w hp0 hp5 hjl hju hσ HA HS HX HY HP HR HK
      · rw [show twoM σ (1 + p) (1 + p) (wrapK (1 + p) x) (wrapK (1 + p) y) = wrapK (kindM σ (1 + p) (1 + p)) (rawK σ (wrapK (1 + p) x) (wrapK (1 + p) y)) by rw [twoM, if_neg (by simpa using he), if_neg hd],
            show twoE σ (1 + p) (1 + p) (wrapK (1 + p) y) = 0 by rw [twoE, if_neg (by simpa using he), if_neg hd]] at HP HR
        rw [he] at HK
        exact twos_fine_n which a x y p σ _ _ _ 0 _ 0 j w hp0 hp5 hjl hju hσ HA HS HX HY HP HR HK f28 f29 (wrapK_idem _ _)
    · have hm : kindM σ (1 + p) (1 + p) = 0 := by
        unfold kindE at he; unfold kindM
        by_cases h1 : signK σ = true
        · by_cases h2 : fitsK σ (1 + p) (1 + p) = true
          · simp [h1, h2] at he
          · simp [h1, h2]
        · simp [h1]
      rw [show twoM σ (1 + p) (1 + p) (wrapK (1 + p) x) (wrapK (1 + p) y) = 0 by simp [twoM, he], show twoE σ (1 + p) (1 + p) (wrapK (1 + p) y) = kindE σ (1 + p) (1 + p) by simp [twoE, he]] at HP HR
      rw [hm] at HK
      exact twos_bad_n which a x y p σ _ _ 0 0 0 _ j w hp0 hp5 hjl hju hσ HA HS HX HY HP HR HK f28 f29 (by simpa using he) (by simpa using he)
  · have HY := fun u => rwrap_any 5 y u
    have HP := fun u => ptwo_any σ (1 + p) 5 (wrapK (1 + p) x) (wrapK 5 y) u
    have HR := fun u => rtwo_any σ (1 + p) 5 (wrapK (1 + p) x) (wrapK 5 y) u
    have HK := fun u => pkind_any σ (1 + p) 5 u
    by_cases he : kindE σ (1 + p) 5 = 0
    · have hd : ¬ ((σ = 10 ∨ σ = 11) ∧ wrapK 5 y = 0) := by omega
      rw [show twoM σ (1 + p) 5 (wrapK (1 + p) x) (wrapK 5 y) = wrapK (kindM σ (1 + p) 5) (rawK σ (wrapK (1 + p) x) (wrapK 5 y)) by rw [twoM, if_neg (by simpa using he), if_neg hd],
          show twoE σ (1 + p) 5 (wrapK 5 y) = 0 by rw [twoE, if_neg (by simpa using he), if_neg hd]] at HP HR
      rw [he] at HK
      rcases (show σ = 28 ∨ σ = 29 by omega) with rfl | rfl
      · exact twos_fine_l which a x y p 0 _ _ _ 0 _ 0 j w hp0 hp5 hjl hju hσ HA HS HX HY HP HR HK (wrapK_idem _ _)
      · exact twos_fine_r which a x y p 0 _ _ _ 0 _ 0 j w hp0 hp5 hjl hju hσ HA HS HX HY HP HR HK (wrapK_idem _ _)
    · have hm : kindM σ (1 + p) 5 = 0 := by
        unfold kindE at he; unfold kindM
        by_cases h1 : signK σ = true
        · by_cases h2 : fitsK σ (1 + p) 5 = true
          · simp [h1, h2] at he
          · simp [h1, h2]
        · simp [h1]
      rw [show twoM σ (1 + p) 5 (wrapK (1 + p) x) (wrapK 5 y) = 0 by simp [twoM, he], show twoE σ (1 + p) 5 (wrapK 5 y) = kindE σ (1 + p) 5 by simp [twoE, he]] at HP HR
      rw [hm] at HK
      rcases (show σ = 28 ∨ σ = 29 by omega) with rfl | rfl
      · exact twos_bad_l which a x y p 0 _ _ 0 0 0 _ j w hp0 hp5 hjl hju hσ HA HS HX HY HP HR HK (by simpa using he) (by simpa using he)
      · exact twos_bad_r which a x y p 0 _ _ 0 0 0 _ j w hp0 hp5 hjl hju hσ HA HS HX HY HP HR HK (by simpa using he) (by simpa using he)
end Go.Proofs.Ytelfgfoonfajiaa
