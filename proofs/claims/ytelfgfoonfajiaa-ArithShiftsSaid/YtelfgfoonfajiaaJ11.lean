/- Chapter 11: sums, products, bits in either order; the walk of ArithOrders. Printed by genj11.py. -/
import Derived.Test.YtelfgfoonfajiaaI11
namespace Go.Proofs.Ytelfgfoonfajiaa
open Go.RowKit
set_option linter.unusedVariables false

theorem bits_comm (x y : Int) : bits BinOp.and IntKind.i64 x y = bits BinOp.and IntKind.i64 y x ∧ bits BinOp.or IntKind.i64 x y = bits BinOp.or IntKind.i64 y x ∧ bits BinOp.xor IntKind.i64 x y = bits BinOp.xor IntKind.i64 y x := by
  refine ⟨?_, ?_, ?_⟩
  · show IntKind.i64.wrap ((BitVec.ofInt 64 x &&& BitVec.ofInt 64 y).toNat : Int) = IntKind.i64.wrap ((BitVec.ofInt 64 y &&& BitVec.ofInt 64 x).toNat : Int)
    rw [BitVec.and_comm]
  · show IntKind.i64.wrap ((BitVec.ofInt 64 x ||| BitVec.ofInt 64 y).toNat : Int) = IntKind.i64.wrap ((BitVec.ofInt 64 y ||| BitVec.ofInt 64 x).toNat : Int)
    rw [BitVec.or_comm]
  · show IntKind.i64.wrap ((BitVec.ofInt 64 x ^^^ BitVec.ofInt 64 y).toNat : Int) = IntKind.i64.wrap ((BitVec.ofInt 64 y ^^^ BitVec.ofInt 64 x).toNat : Int)
    rw [BitVec.xor_comm]

theorem raw_comm (s x y : Int) (h : s = 7 ∨ s = 9 ∨ s = 12 ∨ s = 13 ∨ s = 14 ∨ s = 16) : rawK s x y = rawK s y x := by
  obtain ⟨h1, h2, h3⟩ := bits_comm x y
  rcases h with rfl | rfl | rfl | rfl | rfl | rfl
  · simp only [rawK]; simp [Int.add_comm]
  · simp only [rawK]; simp [Int.mul_comm]
  · simpa [rawK] using h1
  · simpa [rawK] using h2
  · simpa [rawK] using h3
  · simp only [rawK]; simp [eq_comm]

theorem two_comm (s a x y : Int) (h : s = 7 ∨ s = 9 ∨ s = 12 ∨ s = 13 ∨ s = 14 ∨ s = 16) : twoM s a a x y = twoM s a a y x ∧ twoE s a a x = twoE s a a y := by
  have hn : ¬ (s = 10 ∨ s = 11) := by omega
  unfold twoM twoE
  simp only [hn, false_and, if_false, raw_comm s x y h]
  exact ⟨by first | rfl | trivial, by first | rfl | trivial⟩

/-- The row of those signs. -/
theorem order_at (j : Nat) (hj : j < 6) : ∃ s : Int, (∀ u : World, (u.alloc (.cells #[.int .i64 7, .int .i64 9, .int .i64 12, .int .i64 13, .int .i64 14, .int .i64 16] 3)).cell? ⟨u.heap.size, j, none⟩ = some (.int .i64 s)) ∧
    (s = 7 ∨ s = 9 ∨ s = 12 ∨ s = 13 ∨ s = 14 ∨ s = 16) := by
  rcases (show j = 0 ∨ j = 1 ∨ j = 2 ∨ j = 3 ∨ j = 4 ∨ j = 5 by omega) with rfl | rfl | rfl | rfl | rfl | rfl
  · exact ⟨7, fun u => by simp [go_sem], by omega⟩
  · exact ⟨9, fun u => by simp [go_sem], by omega⟩
  · exact ⟨12, fun u => by simp [go_sem], by omega⟩
  · exact ⟨13, fun u => by simp [go_sem], by omega⟩
  · exact ⟨14, fun u => by simp [go_sem], by omega⟩
  · exact ⟨16, fun u => by simp [go_sem], by omega⟩

set_option maxHeartbeats 4000000 in
theorem orders_1 (a x y p X Y m dd l1 l2 l3 : Int) (w : World) (hp0 : 0 ≤ p) (hp5 : p < 6)
    (ha : ∀ u, Calls Try.prog 16 #[.int .i64 a, .int .i64 6] u fun e w' => e = .returned (.int .i64 p) ∧ u = w')
    (hx : ∀ u, Calls Try.prog 18 #[.int .i64 (1 + p), .int .i64 x] u fun e w' => e = .returned (.int .i64 X) ∧ u = w')
    (hy : ∀ u, Calls Try.prog 18 #[.int .i64 (1 + p), .int .i64 y] u fun e w' => e = .returned (.int .i64 Y) ∧ u = w')
    (h7 : ∀ u, Calls Try.prog 19 #[.int .i64 7, .int .i64 (1 + p), .int .i64 (1 + p), .int .i64 X, .int .i64 Y] u fun r w' => r = .returned (.tuple #[.int .i64 m, .int .i64 19]) ∧ Below u.heap.size u w')
    (h8 : ∀ u, Calls Try.prog 19 #[.int .i64 8, .int .i64 (1 + p), .int .i64 (1 + p), .int .i64 m, .int .i64 Y] u fun r w' => r = .returned (.tuple #[.int .i64 dd, .int .i64 19]) ∧ Below u.heap.size u w')
    (h17 : ∀ u, Calls Try.prog 19 #[.int .i64 17, .int .i64 (1 + p), .int .i64 (1 + p), .int .i64 X, .int .i64 Y] u fun r w' => r = .returned (.tuple #[.int .i64 l1, .int .i64 19]) ∧ Below u.heap.size u w')
    (h71 : ∀ u, Calls Try.prog 19 #[.int .i64 17, .int .i64 (1 + p), .int .i64 (1 + p), .int .i64 Y, .int .i64 X] u fun r w' => r = .returned (.tuple #[.int .i64 l2, .int .i64 19]) ∧ Below u.heap.size u w')
    (h16 : ∀ u, Calls Try.prog 19 #[.int .i64 16, .int .i64 (1 + p), .int .i64 (1 + p), .int .i64 X, .int .i64 Y] u fun r w' => r = .returned (.tuple #[.int .i64 l3, .int .i64 0]) ∧ Below u.heap.size u w') :
    Calls Try.prog 6 #[.int .i64 a, .int .i64 x, .int .i64 y] w fun e w' => e = .returned (.bool true) ∧ Below w.heap.size w w' := by
  have HA := Lib.hid ha
  have HX := Lib.hid hx
  have HY := Lib.hid hy
  have H7 := Lib.hid h7
  have H8 := Lib.hid h8
  have H17 := Lib.hid h17
  have H71 := Lib.hid h71
  have H16 := Lib.hid h16
  clear ha hx hy h7 h8 h17 h71 h16
  go_enter Try.func6, Try.ntmps6
  go_wp2_with fail
  refine (known_any _).mono ?_
  rintro e u1 ⟨rfl, hb1⟩
  have HB1 := Lib.hid hb1
  clear hb1
  go_wp2_with fail
  refine (HA.out _).mono ?_
  rintro e _ ⟨rfl, rfl⟩
  go_wp2_with fail
  refine (HX.out _).mono ?_
  rintro e _ ⟨rfl, rfl⟩
  go_wp2_with fail
  refine (HY.out _).mono ?_
  rintro e _ ⟨rfl, rfl⟩
  go_wp2_with fail
  go_loopw [8] (fun i wr => ∃ k : Nat, k ≤ 6 ∧ i = .int .i64 k ∧ Below (u1.heap.size + 1) (u1.alloc (.cells #[.int .i64 7, .int .i64 9, .int .i64 12, .int .i64 13, .int .i64 14, .int .i64 16] 3)) wr) (fun i _ => 6 - (intOf i).toNat)
  case atStart => exact ⟨0, by omega, rfl, Below.refl _ _⟩
  case round =>
    obtain ⟨k, hk, rfl, hb⟩ := hrel
    have hsz : u1.heap.size + 1 ≤ wr.heap.size := by have := hb.size; simpa using this
    by_cases hlt : k < 6
    · obtain ⟨σ, hσ, hs⟩ := order_at k hlt
      have hc := (hb.cell (p := ⟨u1.heap.size, k, none⟩) (by simp)).trans (hσ u1)
      obtain ⟨c1, c2⟩ := two_comm σ (1 + p) X Y hs
      have HP := Lib.hid (fun u => ptwo_any σ (1 + p) (1 + p) X Y u)
      have HR := Lib.hid (fun u => ptwo_any σ (1 + p) (1 + p) Y X u)
      rw [← c1, c2] at HR
      have HB := Lib.hid hb
      clear hb hσ hs c1 c2
      generalize twoM σ (1 + p) (1 + p) X Y = n at HP HR
      generalize twoE σ (1 + p) (1 + p) Y = f at HP HR
      go_wp2_with fail
      refine (HP.out _).mono ?_
      rintro e u2 ⟨rfl, hb2⟩
      have hc2 := (hb2.cell (p := ⟨u1.heap.size, k, none⟩) (by show u1.heap.size < _; omega)).trans hc
      have hs2 : u1.heap.size + 1 ≤ u2.heap.size := by have := hb2.size; omega
      have HB2 := Lib.hid (HB.out.trans (hb2.mono hsz))
      clear hb2 HB hc
      go_wp2_with fail
      refine (HR.out _).mono ?_
      rintro e u3 ⟨rfl, hb3⟩
      have HB3 := Lib.hid (HB2.out.trans (hb3.mono hs2))
      clear hb3 HB2 hc2
      go_wp2
      go_roundw
      case rel => exact ⟨k + 1, by omega, by go_num, HB3.out⟩
      case measure => simp [intOf]; omega
    · have HB := Lib.hid (((HB1.out.alloc HB1.out.size _)).trans (hb.mono (by have := HB1.out.size; omega)))
      clear hb
      go_wp2_with fail
      refine (H7.out _).mono ?_
      rintro e u2 ⟨rfl, hb2⟩
      have HB2 := Lib.hid (HB.out.trans (hb2.mono HB.out.size))
      clear hb2 HB
      go_wp2_with fail
      refine (H8.out _).mono ?_
      rintro e u3 ⟨rfl, hb3⟩
      have HB3 := Lib.hid (HB2.out.trans (hb3.mono HB2.out.size))
      clear hb3 HB2
      go_wp2_with fail
      refine (H17.out _).mono ?_
      rintro e u4 ⟨rfl, hb4⟩
      have HB4 := Lib.hid (HB3.out.trans (hb4.mono HB3.out.size))
      clear hb4 HB3
      go_wp2_with fail
      refine (H71.out _).mono ?_
      rintro e u5 ⟨rfl, hb5⟩
      have HB5 := Lib.hid (HB4.out.trans (hb5.mono HB4.out.size))
      clear hb5 HB4
      go_wp2_with fail
      refine (H16.out _).mono ?_
      rintro e u6 ⟨rfl, hb6⟩
      have HB6 := Lib.hid (HB5.out.trans (hb6.mono HB5.out.size))
      clear hb6 HB5
      go_wp2
      go_ret
      exact ⟨rfl, HB6.out⟩

set_option maxHeartbeats 4000000 in
theorem orders_2l (a x y p X Y m dd l1 l2 l3 : Int) (w : World) (hp0 : 0 ≤ p) (hp5 : p < 6)
    (ha : ∀ u, Calls Try.prog 16 #[.int .i64 a, .int .i64 6] u fun e w' => e = .returned (.int .i64 p) ∧ u = w')
    (hx : ∀ u, Calls Try.prog 18 #[.int .i64 (1 + p), .int .i64 x] u fun e w' => e = .returned (.int .i64 X) ∧ u = w')
    (hy : ∀ u, Calls Try.prog 18 #[.int .i64 (1 + p), .int .i64 y] u fun e w' => e = .returned (.int .i64 Y) ∧ u = w')
    (h7 : ∀ u, Calls Try.prog 19 #[.int .i64 7, .int .i64 (1 + p), .int .i64 (1 + p), .int .i64 X, .int .i64 Y] u fun r w' => r = .returned (.tuple #[.int .i64 m, .int .i64 19]) ∧ Below u.heap.size u w')
    (h8 : ∀ u, Calls Try.prog 19 #[.int .i64 8, .int .i64 (1 + p), .int .i64 (1 + p), .int .i64 m, .int .i64 Y] u fun r w' => r = .returned (.tuple #[.int .i64 dd, .int .i64 19]) ∧ Below u.heap.size u w')
    (h17 : ∀ u, Calls Try.prog 19 #[.int .i64 17, .int .i64 (1 + p), .int .i64 (1 + p), .int .i64 X, .int .i64 Y] u fun r w' => r = .returned (.tuple #[.int .i64 1, .int .i64 0]) ∧ Below u.heap.size u w')
    (h71 : ∀ u, Calls Try.prog 19 #[.int .i64 17, .int .i64 (1 + p), .int .i64 (1 + p), .int .i64 Y, .int .i64 X] u fun r w' => r = .returned (.tuple #[.int .i64 0, .int .i64 0]) ∧ Below u.heap.size u w')
    (h16 : ∀ u, Calls Try.prog 19 #[.int .i64 16, .int .i64 (1 + p), .int .i64 (1 + p), .int .i64 X, .int .i64 Y] u fun r w' => r = .returned (.tuple #[.int .i64 0, .int .i64 0]) ∧ Below u.heap.size u w') :
    Calls Try.prog 6 #[.int .i64 a, .int .i64 x, .int .i64 y] w fun e w' => e = .returned (.bool true) ∧ Below w.heap.size w w' := by
  have HA := Lib.hid ha
  have HX := Lib.hid hx
  have HY := Lib.hid hy
  have H7 := Lib.hid h7
  have H8 := Lib.hid h8
  have H17 := Lib.hid h17
  have H71 := Lib.hid h71
  have H16 := Lib.hid h16
  clear ha hx hy h7 h8 h17 h71 h16
  go_enter Try.func6, Try.ntmps6
  go_wp2_with fail
  refine (known_any _).mono ?_
  rintro e u1 ⟨rfl, hb1⟩
  have HB1 := Lib.hid hb1
  clear hb1
  go_wp2_with fail
  refine (HA.out _).mono ?_
  rintro e _ ⟨rfl, rfl⟩
  go_wp2_with fail
  refine (HX.out _).mono ?_
  rintro e _ ⟨rfl, rfl⟩
  go_wp2_with fail
  refine (HY.out _).mono ?_
  rintro e _ ⟨rfl, rfl⟩
  go_wp2_with fail
  go_loopw [8] (fun i wr => ∃ k : Nat, k ≤ 6 ∧ i = .int .i64 k ∧ Below (u1.heap.size + 1) (u1.alloc (.cells #[.int .i64 7, .int .i64 9, .int .i64 12, .int .i64 13, .int .i64 14, .int .i64 16] 3)) wr) (fun i _ => 6 - (intOf i).toNat)
  case atStart => exact ⟨0, by omega, rfl, Below.refl _ _⟩
  case round =>
    obtain ⟨k, hk, rfl, hb⟩ := hrel
    have hsz : u1.heap.size + 1 ≤ wr.heap.size := by have := hb.size; simpa using this
    by_cases hlt : k < 6
    · obtain ⟨σ, hσ, hs⟩ := order_at k hlt
      have hc := (hb.cell (p := ⟨u1.heap.size, k, none⟩) (by simp)).trans (hσ u1)
      obtain ⟨c1, c2⟩ := two_comm σ (1 + p) X Y hs
      have HP := Lib.hid (fun u => ptwo_any σ (1 + p) (1 + p) X Y u)
      have HR := Lib.hid (fun u => ptwo_any σ (1 + p) (1 + p) Y X u)
      rw [← c1, c2] at HR
      have HB := Lib.hid hb
      clear hb hσ hs c1 c2
      generalize twoM σ (1 + p) (1 + p) X Y = n at HP HR
      generalize twoE σ (1 + p) (1 + p) Y = f at HP HR
      go_wp2_with fail
      refine (HP.out _).mono ?_
      rintro e u2 ⟨rfl, hb2⟩
      have hc2 := (hb2.cell (p := ⟨u1.heap.size, k, none⟩) (by show u1.heap.size < _; omega)).trans hc
      have hs2 : u1.heap.size + 1 ≤ u2.heap.size := by have := hb2.size; omega
      have HB2 := Lib.hid (HB.out.trans (hb2.mono hsz))
      clear hb2 HB hc
      go_wp2_with fail
      refine (HR.out _).mono ?_
      rintro e u3 ⟨rfl, hb3⟩
      have HB3 := Lib.hid (HB2.out.trans (hb3.mono hs2))
      clear hb3 HB2 hc2
      go_wp2
      go_roundw
      case rel => exact ⟨k + 1, by omega, by go_num, HB3.out⟩
      case measure => simp [intOf]; omega
    · have HB := Lib.hid (((HB1.out.alloc HB1.out.size _)).trans (hb.mono (by have := HB1.out.size; omega)))
      clear hb
      go_wp2_with fail
      refine (H7.out _).mono ?_
      rintro e u2 ⟨rfl, hb2⟩
      have HB2 := Lib.hid (HB.out.trans (hb2.mono HB.out.size))
      clear hb2 HB
      go_wp2_with fail
      refine (H8.out _).mono ?_
      rintro e u3 ⟨rfl, hb3⟩
      have HB3 := Lib.hid (HB2.out.trans (hb3.mono HB2.out.size))
      clear hb3 HB2
      go_wp2_with fail
      refine (H17.out _).mono ?_
      rintro e u4 ⟨rfl, hb4⟩
      have HB4 := Lib.hid (HB3.out.trans (hb4.mono HB3.out.size))
      clear hb4 HB3
      go_wp2_with fail
      refine (H71.out _).mono ?_
      rintro e u5 ⟨rfl, hb5⟩
      have HB5 := Lib.hid (HB4.out.trans (hb5.mono HB4.out.size))
      clear hb5 HB4
      go_wp2_with fail
      refine (H16.out _).mono ?_
      rintro e u6 ⟨rfl, hb6⟩
      have HB6 := Lib.hid (HB5.out.trans (hb6.mono HB5.out.size))
      clear hb6 HB5
      go_wp2
      go_ret
      exact ⟨rfl, HB6.out⟩

set_option maxHeartbeats 4000000 in
theorem orders_4l (a x y p X Y m dd l1 l2 l3 : Int) (w : World) (hp0 : 0 ≤ p) (hp5 : p < 6)
    (ha : ∀ u, Calls Try.prog 16 #[.int .i64 a, .int .i64 6] u fun e w' => e = .returned (.int .i64 p) ∧ u = w')
    (hx : ∀ u, Calls Try.prog 18 #[.int .i64 (1 + p), .int .i64 x] u fun e w' => e = .returned (.int .i64 X) ∧ u = w')
    (hy : ∀ u, Calls Try.prog 18 #[.int .i64 (1 + p), .int .i64 y] u fun e w' => e = .returned (.int .i64 Y) ∧ u = w')
    (h7 : ∀ u, Calls Try.prog 19 #[.int .i64 7, .int .i64 (1 + p), .int .i64 (1 + p), .int .i64 X, .int .i64 Y] u fun r w' => r = .returned (.tuple #[.int .i64 m, .int .i64 0]) ∧ Below u.heap.size u w')
    (h8 : ∀ u, Calls Try.prog 19 #[.int .i64 8, .int .i64 (1 + p), .int .i64 (1 + p), .int .i64 m, .int .i64 Y] u fun r w' => r = .returned (.tuple #[.int .i64 X, .int .i64 0]) ∧ Below u.heap.size u w')
    (h17 : ∀ u, Calls Try.prog 19 #[.int .i64 17, .int .i64 (1 + p), .int .i64 (1 + p), .int .i64 X, .int .i64 Y] u fun r w' => r = .returned (.tuple #[.int .i64 1, .int .i64 0]) ∧ Below u.heap.size u w')
    (h71 : ∀ u, Calls Try.prog 19 #[.int .i64 17, .int .i64 (1 + p), .int .i64 (1 + p), .int .i64 Y, .int .i64 X] u fun r w' => r = .returned (.tuple #[.int .i64 0, .int .i64 0]) ∧ Below u.heap.size u w')
    (h16 : ∀ u, Calls Try.prog 19 #[.int .i64 16, .int .i64 (1 + p), .int .i64 (1 + p), .int .i64 X, .int .i64 Y] u fun r w' => r = .returned (.tuple #[.int .i64 0, .int .i64 0]) ∧ Below u.heap.size u w') :
    Calls Try.prog 6 #[.int .i64 a, .int .i64 x, .int .i64 y] w fun e w' => e = .returned (.bool true) ∧ Below w.heap.size w w' := by
  have HA := Lib.hid ha
  have HX := Lib.hid hx
  have HY := Lib.hid hy
  have H7 := Lib.hid h7
  have H8 := Lib.hid h8
  have H17 := Lib.hid h17
  have H71 := Lib.hid h71
  have H16 := Lib.hid h16
  clear ha hx hy h7 h8 h17 h71 h16
  go_enter Try.func6, Try.ntmps6
  go_wp2_with fail
  refine (known_any _).mono ?_
  rintro e u1 ⟨rfl, hb1⟩
  have HB1 := Lib.hid hb1
  clear hb1
  go_wp2_with fail
  refine (HA.out _).mono ?_
  rintro e _ ⟨rfl, rfl⟩
  go_wp2_with fail
  refine (HX.out _).mono ?_
  rintro e _ ⟨rfl, rfl⟩
  go_wp2_with fail
  refine (HY.out _).mono ?_
  rintro e _ ⟨rfl, rfl⟩
  go_wp2_with fail
  go_loopw [8] (fun i wr => ∃ k : Nat, k ≤ 6 ∧ i = .int .i64 k ∧ Below (u1.heap.size + 1) (u1.alloc (.cells #[.int .i64 7, .int .i64 9, .int .i64 12, .int .i64 13, .int .i64 14, .int .i64 16] 3)) wr) (fun i _ => 6 - (intOf i).toNat)
  case atStart => exact ⟨0, by omega, rfl, Below.refl _ _⟩
  case round =>
    obtain ⟨k, hk, rfl, hb⟩ := hrel
    have hsz : u1.heap.size + 1 ≤ wr.heap.size := by have := hb.size; simpa using this
    by_cases hlt : k < 6
    · obtain ⟨σ, hσ, hs⟩ := order_at k hlt
      have hc := (hb.cell (p := ⟨u1.heap.size, k, none⟩) (by simp)).trans (hσ u1)
      obtain ⟨c1, c2⟩ := two_comm σ (1 + p) X Y hs
      have HP := Lib.hid (fun u => ptwo_any σ (1 + p) (1 + p) X Y u)
      have HR := Lib.hid (fun u => ptwo_any σ (1 + p) (1 + p) Y X u)
      rw [← c1, c2] at HR
      have HB := Lib.hid hb
      clear hb hσ hs c1 c2
      generalize twoM σ (1 + p) (1 + p) X Y = n at HP HR
      generalize twoE σ (1 + p) (1 + p) Y = f at HP HR
      go_wp2_with fail
      refine (HP.out _).mono ?_
      rintro e u2 ⟨rfl, hb2⟩
      have hc2 := (hb2.cell (p := ⟨u1.heap.size, k, none⟩) (by show u1.heap.size < _; omega)).trans hc
      have hs2 : u1.heap.size + 1 ≤ u2.heap.size := by have := hb2.size; omega
      have HB2 := Lib.hid (HB.out.trans (hb2.mono hsz))
      clear hb2 HB hc
      go_wp2_with fail
      refine (HR.out _).mono ?_
      rintro e u3 ⟨rfl, hb3⟩
      have HB3 := Lib.hid (HB2.out.trans (hb3.mono hs2))
      clear hb3 HB2 hc2
      go_wp2
      go_roundw
      case rel => exact ⟨k + 1, by omega, by go_num, HB3.out⟩
      case measure => simp [intOf]; omega
    · have HB := Lib.hid (((HB1.out.alloc HB1.out.size _)).trans (hb.mono (by have := HB1.out.size; omega)))
      clear hb
      go_wp2_with fail
      refine (H7.out _).mono ?_
      rintro e u2 ⟨rfl, hb2⟩
      have HB2 := Lib.hid (HB.out.trans (hb2.mono HB.out.size))
      clear hb2 HB
      go_wp2_with fail
      refine (H8.out _).mono ?_
      rintro e u3 ⟨rfl, hb3⟩
      have HB3 := Lib.hid (HB2.out.trans (hb3.mono HB2.out.size))
      clear hb3 HB2
      go_wp2_with fail
      refine (H17.out _).mono ?_
      rintro e u4 ⟨rfl, hb4⟩
      have HB4 := Lib.hid (HB3.out.trans (hb4.mono HB3.out.size))
      clear hb4 HB3
      go_wp2_with fail
      refine (H71.out _).mono ?_
      rintro e u5 ⟨rfl, hb5⟩
      have HB5 := Lib.hid (HB4.out.trans (hb5.mono HB4.out.size))
      clear hb5 HB4
      go_wp2_with fail
      refine (H16.out _).mono ?_
      rintro e u6 ⟨rfl, hb6⟩
      have HB6 := Lib.hid (HB5.out.trans (hb6.mono HB5.out.size))
      clear hb6 HB5
      go_wp2
      go_ret
      exact ⟨rfl, HB6.out⟩

set_option maxHeartbeats 4000000 in
theorem orders_2g (a x y p X Y m dd l1 l2 l3 : Int) (w : World) (hp0 : 0 ≤ p) (hp5 : p < 6)
    (ha : ∀ u, Calls Try.prog 16 #[.int .i64 a, .int .i64 6] u fun e w' => e = .returned (.int .i64 p) ∧ u = w')
    (hx : ∀ u, Calls Try.prog 18 #[.int .i64 (1 + p), .int .i64 x] u fun e w' => e = .returned (.int .i64 X) ∧ u = w')
    (hy : ∀ u, Calls Try.prog 18 #[.int .i64 (1 + p), .int .i64 y] u fun e w' => e = .returned (.int .i64 Y) ∧ u = w')
    (h7 : ∀ u, Calls Try.prog 19 #[.int .i64 7, .int .i64 (1 + p), .int .i64 (1 + p), .int .i64 X, .int .i64 Y] u fun r w' => r = .returned (.tuple #[.int .i64 m, .int .i64 19]) ∧ Below u.heap.size u w')
    (h8 : ∀ u, Calls Try.prog 19 #[.int .i64 8, .int .i64 (1 + p), .int .i64 (1 + p), .int .i64 m, .int .i64 Y] u fun r w' => r = .returned (.tuple #[.int .i64 dd, .int .i64 19]) ∧ Below u.heap.size u w')
    (h17 : ∀ u, Calls Try.prog 19 #[.int .i64 17, .int .i64 (1 + p), .int .i64 (1 + p), .int .i64 X, .int .i64 Y] u fun r w' => r = .returned (.tuple #[.int .i64 0, .int .i64 0]) ∧ Below u.heap.size u w')
    (h71 : ∀ u, Calls Try.prog 19 #[.int .i64 17, .int .i64 (1 + p), .int .i64 (1 + p), .int .i64 Y, .int .i64 X] u fun r w' => r = .returned (.tuple #[.int .i64 1, .int .i64 0]) ∧ Below u.heap.size u w')
    (h16 : ∀ u, Calls Try.prog 19 #[.int .i64 16, .int .i64 (1 + p), .int .i64 (1 + p), .int .i64 X, .int .i64 Y] u fun r w' => r = .returned (.tuple #[.int .i64 0, .int .i64 0]) ∧ Below u.heap.size u w') :
    Calls Try.prog 6 #[.int .i64 a, .int .i64 x, .int .i64 y] w fun e w' => e = .returned (.bool true) ∧ Below w.heap.size w w' := by
  have HA := Lib.hid ha
  have HX := Lib.hid hx
  have HY := Lib.hid hy
  have H7 := Lib.hid h7
  have H8 := Lib.hid h8
  have H17 := Lib.hid h17
  have H71 := Lib.hid h71
  have H16 := Lib.hid h16
  clear ha hx hy h7 h8 h17 h71 h16
  go_enter Try.func6, Try.ntmps6
  go_wp2_with fail
  refine (known_any _).mono ?_
  rintro e u1 ⟨rfl, hb1⟩
  have HB1 := Lib.hid hb1
  clear hb1
  go_wp2_with fail
  refine (HA.out _).mono ?_
  rintro e _ ⟨rfl, rfl⟩
  go_wp2_with fail
  refine (HX.out _).mono ?_
  rintro e _ ⟨rfl, rfl⟩
  go_wp2_with fail
  refine (HY.out _).mono ?_
  rintro e _ ⟨rfl, rfl⟩
  go_wp2_with fail
  go_loopw [8] (fun i wr => ∃ k : Nat, k ≤ 6 ∧ i = .int .i64 k ∧ Below (u1.heap.size + 1) (u1.alloc (.cells #[.int .i64 7, .int .i64 9, .int .i64 12, .int .i64 13, .int .i64 14, .int .i64 16] 3)) wr) (fun i _ => 6 - (intOf i).toNat)
  case atStart => exact ⟨0, by omega, rfl, Below.refl _ _⟩
  case round =>
    obtain ⟨k, hk, rfl, hb⟩ := hrel
    have hsz : u1.heap.size + 1 ≤ wr.heap.size := by have := hb.size; simpa using this
    by_cases hlt : k < 6
    · obtain ⟨σ, hσ, hs⟩ := order_at k hlt
      have hc := (hb.cell (p := ⟨u1.heap.size, k, none⟩) (by simp)).trans (hσ u1)
      obtain ⟨c1, c2⟩ := two_comm σ (1 + p) X Y hs
      have HP := Lib.hid (fun u => ptwo_any σ (1 + p) (1 + p) X Y u)
      have HR := Lib.hid (fun u => ptwo_any σ (1 + p) (1 + p) Y X u)
      rw [← c1, c2] at HR
      have HB := Lib.hid hb
      clear hb hσ hs c1 c2
      generalize twoM σ (1 + p) (1 + p) X Y = n at HP HR
      generalize twoE σ (1 + p) (1 + p) Y = f at HP HR
      go_wp2_with fail
      refine (HP.out _).mono ?_
      rintro e u2 ⟨rfl, hb2⟩
      have hc2 := (hb2.cell (p := ⟨u1.heap.size, k, none⟩) (by show u1.heap.size < _; omega)).trans hc
      have hs2 : u1.heap.size + 1 ≤ u2.heap.size := by have := hb2.size; omega
      have HB2 := Lib.hid (HB.out.trans (hb2.mono hsz))
      clear hb2 HB hc
      go_wp2_with fail
      refine (HR.out _).mono ?_
      rintro e u3 ⟨rfl, hb3⟩
      have HB3 := Lib.hid (HB2.out.trans (hb3.mono hs2))
      clear hb3 HB2 hc2
      go_wp2
      go_roundw
      case rel => exact ⟨k + 1, by omega, by go_num, HB3.out⟩
      case measure => simp [intOf]; omega
    · have HB := Lib.hid (((HB1.out.alloc HB1.out.size _)).trans (hb.mono (by have := HB1.out.size; omega)))
      clear hb
      go_wp2_with fail
      refine (H7.out _).mono ?_
      rintro e u2 ⟨rfl, hb2⟩
      have HB2 := Lib.hid (HB.out.trans (hb2.mono HB.out.size))
      clear hb2 HB
      go_wp2_with fail
      refine (H8.out _).mono ?_
      rintro e u3 ⟨rfl, hb3⟩
      have HB3 := Lib.hid (HB2.out.trans (hb3.mono HB2.out.size))
      clear hb3 HB2
      go_wp2_with fail
      refine (H17.out _).mono ?_
      rintro e u4 ⟨rfl, hb4⟩
      have HB4 := Lib.hid (HB3.out.trans (hb4.mono HB3.out.size))
      clear hb4 HB3
      go_wp2_with fail
      refine (H71.out _).mono ?_
      rintro e u5 ⟨rfl, hb5⟩
      have HB5 := Lib.hid (HB4.out.trans (hb5.mono HB4.out.size))
      clear hb5 HB4
      go_wp2_with fail
      refine (H16.out _).mono ?_
      rintro e u6 ⟨rfl, hb6⟩
      have HB6 := Lib.hid (HB5.out.trans (hb6.mono HB5.out.size))
      clear hb6 HB5
      go_wp2
      go_ret
      exact ⟨rfl, HB6.out⟩

set_option maxHeartbeats 4000000 in
theorem orders_4g (a x y p X Y m dd l1 l2 l3 : Int) (w : World) (hp0 : 0 ≤ p) (hp5 : p < 6)
    (ha : ∀ u, Calls Try.prog 16 #[.int .i64 a, .int .i64 6] u fun e w' => e = .returned (.int .i64 p) ∧ u = w')
    (hx : ∀ u, Calls Try.prog 18 #[.int .i64 (1 + p), .int .i64 x] u fun e w' => e = .returned (.int .i64 X) ∧ u = w')
    (hy : ∀ u, Calls Try.prog 18 #[.int .i64 (1 + p), .int .i64 y] u fun e w' => e = .returned (.int .i64 Y) ∧ u = w')
    (h7 : ∀ u, Calls Try.prog 19 #[.int .i64 7, .int .i64 (1 + p), .int .i64 (1 + p), .int .i64 X, .int .i64 Y] u fun r w' => r = .returned (.tuple #[.int .i64 m, .int .i64 0]) ∧ Below u.heap.size u w')
    (h8 : ∀ u, Calls Try.prog 19 #[.int .i64 8, .int .i64 (1 + p), .int .i64 (1 + p), .int .i64 m, .int .i64 Y] u fun r w' => r = .returned (.tuple #[.int .i64 X, .int .i64 0]) ∧ Below u.heap.size u w')
    (h17 : ∀ u, Calls Try.prog 19 #[.int .i64 17, .int .i64 (1 + p), .int .i64 (1 + p), .int .i64 X, .int .i64 Y] u fun r w' => r = .returned (.tuple #[.int .i64 0, .int .i64 0]) ∧ Below u.heap.size u w')
    (h71 : ∀ u, Calls Try.prog 19 #[.int .i64 17, .int .i64 (1 + p), .int .i64 (1 + p), .int .i64 Y, .int .i64 X] u fun r w' => r = .returned (.tuple #[.int .i64 1, .int .i64 0]) ∧ Below u.heap.size u w')
    (h16 : ∀ u, Calls Try.prog 19 #[.int .i64 16, .int .i64 (1 + p), .int .i64 (1 + p), .int .i64 X, .int .i64 Y] u fun r w' => r = .returned (.tuple #[.int .i64 0, .int .i64 0]) ∧ Below u.heap.size u w') :
    Calls Try.prog 6 #[.int .i64 a, .int .i64 x, .int .i64 y] w fun e w' => e = .returned (.bool true) ∧ Below w.heap.size w w' := by
  have HA := Lib.hid ha
  have HX := Lib.hid hx
  have HY := Lib.hid hy
  have H7 := Lib.hid h7
  have H8 := Lib.hid h8
  have H17 := Lib.hid h17
  have H71 := Lib.hid h71
  have H16 := Lib.hid h16
  clear ha hx hy h7 h8 h17 h71 h16
  go_enter Try.func6, Try.ntmps6
  go_wp2_with fail
  refine (known_any _).mono ?_
  rintro e u1 ⟨rfl, hb1⟩
  have HB1 := Lib.hid hb1
  clear hb1
  go_wp2_with fail
  refine (HA.out _).mono ?_
  rintro e _ ⟨rfl, rfl⟩
  go_wp2_with fail
  refine (HX.out _).mono ?_
  rintro e _ ⟨rfl, rfl⟩
  go_wp2_with fail
  refine (HY.out _).mono ?_
  rintro e _ ⟨rfl, rfl⟩
  go_wp2_with fail
  go_loopw [8] (fun i wr => ∃ k : Nat, k ≤ 6 ∧ i = .int .i64 k ∧ Below (u1.heap.size + 1) (u1.alloc (.cells #[.int .i64 7, .int .i64 9, .int .i64 12, .int .i64 13, .int .i64 14, .int .i64 16] 3)) wr) (fun i _ => 6 - (intOf i).toNat)
  case atStart => exact ⟨0, by omega, rfl, Below.refl _ _⟩
  case round =>
    obtain ⟨k, hk, rfl, hb⟩ := hrel
    have hsz : u1.heap.size + 1 ≤ wr.heap.size := by have := hb.size; simpa using this
    by_cases hlt : k < 6
    · obtain ⟨σ, hσ, hs⟩ := order_at k hlt
      have hc := (hb.cell (p := ⟨u1.heap.size, k, none⟩) (by simp)).trans (hσ u1)
      obtain ⟨c1, c2⟩ := two_comm σ (1 + p) X Y hs
      have HP := Lib.hid (fun u => ptwo_any σ (1 + p) (1 + p) X Y u)
      have HR := Lib.hid (fun u => ptwo_any σ (1 + p) (1 + p) Y X u)
      rw [← c1, c2] at HR
      have HB := Lib.hid hb
      clear hb hσ hs c1 c2
      generalize twoM σ (1 + p) (1 + p) X Y = n at HP HR
      generalize twoE σ (1 + p) (1 + p) Y = f at HP HR
      go_wp2_with fail
      refine (HP.out _).mono ?_
      rintro e u2 ⟨rfl, hb2⟩
      have hc2 := (hb2.cell (p := ⟨u1.heap.size, k, none⟩) (by show u1.heap.size < _; omega)).trans hc
      have hs2 : u1.heap.size + 1 ≤ u2.heap.size := by have := hb2.size; omega
      have HB2 := Lib.hid (HB.out.trans (hb2.mono hsz))
      clear hb2 HB hc
      go_wp2_with fail
      refine (HR.out _).mono ?_
      rintro e u3 ⟨rfl, hb3⟩
      have HB3 := Lib.hid (HB2.out.trans (hb3.mono hs2))
      clear hb3 HB2 hc2
      go_wp2
      go_roundw
      case rel => exact ⟨k + 1, by omega, by go_num, HB3.out⟩
      case measure => simp [intOf]; omega
    · have HB := Lib.hid (((HB1.out.alloc HB1.out.size _)).trans (hb.mono (by have := HB1.out.size; omega)))
      clear hb
      go_wp2_with fail
      refine (H7.out _).mono ?_
      rintro e u2 ⟨rfl, hb2⟩
      have HB2 := Lib.hid (HB.out.trans (hb2.mono HB.out.size))
      clear hb2 HB
      go_wp2_with fail
      refine (H8.out _).mono ?_
      rintro e u3 ⟨rfl, hb3⟩
      have HB3 := Lib.hid (HB2.out.trans (hb3.mono HB2.out.size))
      clear hb3 HB2
      go_wp2_with fail
      refine (H17.out _).mono ?_
      rintro e u4 ⟨rfl, hb4⟩
      have HB4 := Lib.hid (HB3.out.trans (hb4.mono HB3.out.size))
      clear hb4 HB3
      go_wp2_with fail
      refine (H71.out _).mono ?_
      rintro e u5 ⟨rfl, hb5⟩
      have HB5 := Lib.hid (HB4.out.trans (hb5.mono HB4.out.size))
      clear hb5 HB4
      go_wp2_with fail
      refine (H16.out _).mono ?_
      rintro e u6 ⟨rfl, hb6⟩
      have HB6 := Lib.hid (HB5.out.trans (hb6.mono HB5.out.size))
      clear hb6 HB5
      go_wp2
      go_ret
      exact ⟨rfl, HB6.out⟩

set_option maxHeartbeats 4000000 in
theorem orders_2e (a x y p X Y m dd l1 l2 l3 : Int) (w : World) (hp0 : 0 ≤ p) (hp5 : p < 6)
    (ha : ∀ u, Calls Try.prog 16 #[.int .i64 a, .int .i64 6] u fun e w' => e = .returned (.int .i64 p) ∧ u = w')
    (hx : ∀ u, Calls Try.prog 18 #[.int .i64 (1 + p), .int .i64 x] u fun e w' => e = .returned (.int .i64 X) ∧ u = w')
    (hy : ∀ u, Calls Try.prog 18 #[.int .i64 (1 + p), .int .i64 y] u fun e w' => e = .returned (.int .i64 Y) ∧ u = w')
    (h7 : ∀ u, Calls Try.prog 19 #[.int .i64 7, .int .i64 (1 + p), .int .i64 (1 + p), .int .i64 X, .int .i64 Y] u fun r w' => r = .returned (.tuple #[.int .i64 m, .int .i64 19]) ∧ Below u.heap.size u w')
    (h8 : ∀ u, Calls Try.prog 19 #[.int .i64 8, .int .i64 (1 + p), .int .i64 (1 + p), .int .i64 m, .int .i64 Y] u fun r w' => r = .returned (.tuple #[.int .i64 dd, .int .i64 19]) ∧ Below u.heap.size u w')
    (h17 : ∀ u, Calls Try.prog 19 #[.int .i64 17, .int .i64 (1 + p), .int .i64 (1 + p), .int .i64 X, .int .i64 Y] u fun r w' => r = .returned (.tuple #[.int .i64 0, .int .i64 0]) ∧ Below u.heap.size u w')
    (h71 : ∀ u, Calls Try.prog 19 #[.int .i64 17, .int .i64 (1 + p), .int .i64 (1 + p), .int .i64 Y, .int .i64 X] u fun r w' => r = .returned (.tuple #[.int .i64 0, .int .i64 0]) ∧ Below u.heap.size u w')
    (h16 : ∀ u, Calls Try.prog 19 #[.int .i64 16, .int .i64 (1 + p), .int .i64 (1 + p), .int .i64 X, .int .i64 Y] u fun r w' => r = .returned (.tuple #[.int .i64 1, .int .i64 0]) ∧ Below u.heap.size u w') :
    Calls Try.prog 6 #[.int .i64 a, .int .i64 x, .int .i64 y] w fun e w' => e = .returned (.bool true) ∧ Below w.heap.size w w' := by
  have HA := Lib.hid ha
  have HX := Lib.hid hx
  have HY := Lib.hid hy
  have H7 := Lib.hid h7
  have H8 := Lib.hid h8
  have H17 := Lib.hid h17
  have H71 := Lib.hid h71
  have H16 := Lib.hid h16
  clear ha hx hy h7 h8 h17 h71 h16
  go_enter Try.func6, Try.ntmps6
  go_wp2_with fail
  refine (known_any _).mono ?_
  rintro e u1 ⟨rfl, hb1⟩
  have HB1 := Lib.hid hb1
  clear hb1
  go_wp2_with fail
  refine (HA.out _).mono ?_
  rintro e _ ⟨rfl, rfl⟩
  go_wp2_with fail
  refine (HX.out _).mono ?_
  rintro e _ ⟨rfl, rfl⟩
  go_wp2_with fail
  refine (HY.out _).mono ?_
  rintro e _ ⟨rfl, rfl⟩
  go_wp2_with fail
  go_loopw [8] (fun i wr => ∃ k : Nat, k ≤ 6 ∧ i = .int .i64 k ∧ Below (u1.heap.size + 1) (u1.alloc (.cells #[.int .i64 7, .int .i64 9, .int .i64 12, .int .i64 13, .int .i64 14, .int .i64 16] 3)) wr) (fun i _ => 6 - (intOf i).toNat)
  case atStart => exact ⟨0, by omega, rfl, Below.refl _ _⟩
  case round =>
    obtain ⟨k, hk, rfl, hb⟩ := hrel
    have hsz : u1.heap.size + 1 ≤ wr.heap.size := by have := hb.size; simpa using this
    by_cases hlt : k < 6
    · obtain ⟨σ, hσ, hs⟩ := order_at k hlt
      have hc := (hb.cell (p := ⟨u1.heap.size, k, none⟩) (by simp)).trans (hσ u1)
      obtain ⟨c1, c2⟩ := two_comm σ (1 + p) X Y hs
      have HP := Lib.hid (fun u => ptwo_any σ (1 + p) (1 + p) X Y u)
      have HR := Lib.hid (fun u => ptwo_any σ (1 + p) (1 + p) Y X u)
      rw [← c1, c2] at HR
      have HB := Lib.hid hb
      clear hb hσ hs c1 c2
      generalize twoM σ (1 + p) (1 + p) X Y = n at HP HR
      generalize twoE σ (1 + p) (1 + p) Y = f at HP HR
      go_wp2_with fail
      refine (HP.out _).mono ?_
      rintro e u2 ⟨rfl, hb2⟩
      have hc2 := (hb2.cell (p := ⟨u1.heap.size, k, none⟩) (by show u1.heap.size < _; omega)).trans hc
      have hs2 : u1.heap.size + 1 ≤ u2.heap.size := by have := hb2.size; omega
      have HB2 := Lib.hid (HB.out.trans (hb2.mono hsz))
      clear hb2 HB hc
      go_wp2_with fail
      refine (HR.out _).mono ?_
      rintro e u3 ⟨rfl, hb3⟩
      have HB3 := Lib.hid (HB2.out.trans (hb3.mono hs2))
      clear hb3 HB2 hc2
      go_wp2
      go_roundw
      case rel => exact ⟨k + 1, by omega, by go_num, HB3.out⟩
      case measure => simp [intOf]; omega
    · have HB := Lib.hid (((HB1.out.alloc HB1.out.size _)).trans (hb.mono (by have := HB1.out.size; omega)))
      clear hb
      go_wp2_with fail
      refine (H7.out _).mono ?_
      rintro e u2 ⟨rfl, hb2⟩
      have HB2 := Lib.hid (HB.out.trans (hb2.mono HB.out.size))
      clear hb2 HB
      go_wp2_with fail
      refine (H8.out _).mono ?_
      rintro e u3 ⟨rfl, hb3⟩
      have HB3 := Lib.hid (HB2.out.trans (hb3.mono HB2.out.size))
      clear hb3 HB2
      go_wp2_with fail
      refine (H17.out _).mono ?_
      rintro e u4 ⟨rfl, hb4⟩
      have HB4 := Lib.hid (HB3.out.trans (hb4.mono HB3.out.size))
      clear hb4 HB3
      go_wp2_with fail
      refine (H71.out _).mono ?_
      rintro e u5 ⟨rfl, hb5⟩
      have HB5 := Lib.hid (HB4.out.trans (hb5.mono HB4.out.size))
      clear hb5 HB4
      go_wp2_with fail
      refine (H16.out _).mono ?_
      rintro e u6 ⟨rfl, hb6⟩
      have HB6 := Lib.hid (HB5.out.trans (hb6.mono HB5.out.size))
      clear hb6 HB5
      go_wp2
      go_ret
      exact ⟨rfl, HB6.out⟩

set_option maxHeartbeats 4000000 in
theorem orders_4e (a x y p X Y m dd l1 l2 l3 : Int) (w : World) (hp0 : 0 ≤ p) (hp5 : p < 6)
    (ha : ∀ u, Calls Try.prog 16 #[.int .i64 a, .int .i64 6] u fun e w' => e = .returned (.int .i64 p) ∧ u = w')
    (hx : ∀ u, Calls Try.prog 18 #[.int .i64 (1 + p), .int .i64 x] u fun e w' => e = .returned (.int .i64 X) ∧ u = w')
    (hy : ∀ u, Calls Try.prog 18 #[.int .i64 (1 + p), .int .i64 y] u fun e w' => e = .returned (.int .i64 Y) ∧ u = w')
    (h7 : ∀ u, Calls Try.prog 19 #[.int .i64 7, .int .i64 (1 + p), .int .i64 (1 + p), .int .i64 X, .int .i64 Y] u fun r w' => r = .returned (.tuple #[.int .i64 m, .int .i64 0]) ∧ Below u.heap.size u w')
    (h8 : ∀ u, Calls Try.prog 19 #[.int .i64 8, .int .i64 (1 + p), .int .i64 (1 + p), .int .i64 m, .int .i64 Y] u fun r w' => r = .returned (.tuple #[.int .i64 X, .int .i64 0]) ∧ Below u.heap.size u w')
    (h17 : ∀ u, Calls Try.prog 19 #[.int .i64 17, .int .i64 (1 + p), .int .i64 (1 + p), .int .i64 X, .int .i64 Y] u fun r w' => r = .returned (.tuple #[.int .i64 0, .int .i64 0]) ∧ Below u.heap.size u w')
    (h71 : ∀ u, Calls Try.prog 19 #[.int .i64 17, .int .i64 (1 + p), .int .i64 (1 + p), .int .i64 Y, .int .i64 X] u fun r w' => r = .returned (.tuple #[.int .i64 0, .int .i64 0]) ∧ Below u.heap.size u w')
    (h16 : ∀ u, Calls Try.prog 19 #[.int .i64 16, .int .i64 (1 + p), .int .i64 (1 + p), .int .i64 X, .int .i64 Y] u fun r w' => r = .returned (.tuple #[.int .i64 1, .int .i64 0]) ∧ Below u.heap.size u w') :
    Calls Try.prog 6 #[.int .i64 a, .int .i64 x, .int .i64 y] w fun e w' => e = .returned (.bool true) ∧ Below w.heap.size w w' := by
  have HA := Lib.hid ha
  have HX := Lib.hid hx
  have HY := Lib.hid hy
  have H7 := Lib.hid h7
  have H8 := Lib.hid h8
  have H17 := Lib.hid h17
  have H71 := Lib.hid h71
  have H16 := Lib.hid h16
  clear ha hx hy h7 h8 h17 h71 h16
  go_enter Try.func6, Try.ntmps6
  go_wp2_with fail
  refine (known_any _).mono ?_
  rintro e u1 ⟨rfl, hb1⟩
  have HB1 := Lib.hid hb1
  clear hb1
  go_wp2_with fail
  refine (HA.out _).mono ?_
  rintro e _ ⟨rfl, rfl⟩
  go_wp2_with fail
  refine (HX.out _).mono ?_
  rintro e _ ⟨rfl, rfl⟩
  go_wp2_with fail
  refine (HY.out _).mono ?_
  rintro e _ ⟨rfl, rfl⟩
  go_wp2_with fail
  go_loopw [8] (fun i wr => ∃ k : Nat, k ≤ 6 ∧ i = .int .i64 k ∧ Below (u1.heap.size + 1) (u1.alloc (.cells #[.int .i64 7, .int .i64 9, .int .i64 12, .int .i64 13, .int .i64 14, .int .i64 16] 3)) wr) (fun i _ => 6 - (intOf i).toNat)
  case atStart => exact ⟨0, by omega, rfl, Below.refl _ _⟩
  case round =>
    obtain ⟨k, hk, rfl, hb⟩ := hrel
    have hsz : u1.heap.size + 1 ≤ wr.heap.size := by have := hb.size; simpa using this
    by_cases hlt : k < 6
    · obtain ⟨σ, hσ, hs⟩ := order_at k hlt
      have hc := (hb.cell (p := ⟨u1.heap.size, k, none⟩) (by simp)).trans (hσ u1)
      obtain ⟨c1, c2⟩ := two_comm σ (1 + p) X Y hs
      have HP := Lib.hid (fun u => ptwo_any σ (1 + p) (1 + p) X Y u)
      have HR := Lib.hid (fun u => ptwo_any σ (1 + p) (1 + p) Y X u)
      rw [← c1, c2] at HR
      have HB := Lib.hid hb
      clear hb hσ hs c1 c2
      generalize twoM σ (1 + p) (1 + p) X Y = n at HP HR
      generalize twoE σ (1 + p) (1 + p) Y = f at HP HR
      go_wp2_with fail
      refine (HP.out _).mono ?_
      rintro e u2 ⟨rfl, hb2⟩
      have hc2 := (hb2.cell (p := ⟨u1.heap.size, k, none⟩) (by show u1.heap.size < _; omega)).trans hc
      have hs2 : u1.heap.size + 1 ≤ u2.heap.size := by have := hb2.size; omega
      have HB2 := Lib.hid (HB.out.trans (hb2.mono hsz))
      clear hb2 HB hc
      go_wp2_with fail
      refine (HR.out _).mono ?_
      rintro e u3 ⟨rfl, hb3⟩
      have HB3 := Lib.hid (HB2.out.trans (hb3.mono hs2))
      clear hb3 HB2 hc2
      go_wp2
      go_roundw
      case rel => exact ⟨k + 1, by omega, by go_num, HB3.out⟩
      case measure => simp [intOf]; omega
    · have HB := Lib.hid (((HB1.out.alloc HB1.out.size _)).trans (hb.mono (by have := HB1.out.size; omega)))
      clear hb
      go_wp2_with fail
      refine (H7.out _).mono ?_
      rintro e u2 ⟨rfl, hb2⟩
      have HB2 := Lib.hid (HB.out.trans (hb2.mono HB.out.size))
      clear hb2 HB
      go_wp2_with fail
      refine (H8.out _).mono ?_
      rintro e u3 ⟨rfl, hb3⟩
      have HB3 := Lib.hid (HB2.out.trans (hb3.mono HB2.out.size))
      clear hb3 HB2
      go_wp2_with fail
      refine (H17.out _).mono ?_
      rintro e u4 ⟨rfl, hb4⟩
      have HB4 := Lib.hid (HB3.out.trans (hb4.mono HB3.out.size))
      clear hb4 HB3
      go_wp2_with fail
      refine (H71.out _).mono ?_
      rintro e u5 ⟨rfl, hb5⟩
      have HB5 := Lib.hid (HB4.out.trans (hb5.mono HB4.out.size))
      clear hb5 HB4
      go_wp2_with fail
      refine (H16.out _).mono ?_
      rintro e u6 ⟨rfl, hb6⟩
      have HB6 := Lib.hid (HB5.out.trans (hb6.mono HB5.out.size))
      clear hb6 HB5
      go_wp2
      go_ret
      exact ⟨rfl, HB6.out⟩

theorem wrapK_1 (c : Prop) [Decidable c] : wrapK 1 (if c then 1 else 0) = if c then 1 else 0 := by by_cases h : c <;> simp [wrapK, h]
theorem raw_16 (x y : Int) : rawK 16 x y = if x = y then 1 else 0 := by simp [rawK]
theorem raw_17 (x y : Int) : rawK 17 x y = if x < y then 1 else 0 := by simp [rawK]

theorem sub_back (a x y : Int) (h : a = 4 ∨ a = 5 ∨ a = 6) (w0 : I64 x) : wrapK a (wrap64 (wrapK a (wrap64 (wrapK a x + y)) - y)) = wrapK a x := by
  obtain ⟨h1, h2⟩ := w0
  rcases h with rfl | rfl | rfl
  · rw [wrapK_w64 4 _ (.inl rfl), wrapK_w64 4 _ (.inl rfl)]; simp [wrapK]; omega
  · rw [wrapK_w64 5 _ (.inr rfl), wrapK_w64 5 _ (.inr rfl)]; simp [wrapK]; unfold wrap32; omega
  · simp [wrapK]; unfold wrap64; omega

theorem arithOrders_walk (a x y : Int) (w : World) (w0 : I64 a) (w1 : I64 x) (w2 : I64 y) :
    Calls Try.prog 6 #[.int .i64 a, .int .i64 x, .int .i64 y] w fun e w' => e = .returned (.bool true) ∧ Below w.heap.size w w' := by
  have HA := fun u => within_any a 6 (by decide) (by decide) u
  have hp0 : 0 ≤ a % 6 := by omega
  have hp5 : a % 6 < 6 := by omega
  generalize a % 6 = p at *
  have HX := fun u => rwrap_any (1 + p) x u
  have HY := fun u => rwrap_any (1 + p) y u
  have hb := sub_back (1 + p) x (wrapK (1 + p) y)
  have h16 : kindE 16 (1 + p) (1 + p) = 0 ∧ kindM 16 (1 + p) (1 + p) = 1 := by
    have : fitsK 16 (1 + p) (1 + p) = true := by simp only [fitsK]; simp; omega
    simp [kindE, kindM, signK, this]
  have h8 : kindE 8 (1 + p) (1 + p) = kindE 7 (1 + p) (1 + p) ∧ kindM 8 (1 + p) (1 + p) = kindM 7 (1 + p) (1 + p) := by simp [kindE, kindM, signK, fitsK]
  have k7 : kindE 7 (1 + p) (1 + p) = if 3 ≤ p then 0 else 19 := by
    by_cases h : 3 ≤ p
    · have : fitsK 7 (1 + p) (1 + p) = true := by simp only [fitsK]; simp; omega
      simp [kindE, signK, this, h]
    · have : fitsK 7 (1 + p) (1 + p) = false := by simp only [fitsK]; simp; omega
      simp [kindE, signK, this, h]
  have m7 : 3 ≤ p → kindM 7 (1 + p) (1 + p) = 1 + p := fun h => by
    have : fitsK 7 (1 + p) (1 + p) = true := by simp only [fitsK]; simp; omega
    simp [kindM, signK, this]
  have k17 : kindE 17 (1 + p) (1 + p) = if 1 ≤ p then 0 else 19 := by
    by_cases h : 1 ≤ p
    · have : fitsK 17 (1 + p) (1 + p) = true := by simp only [fitsK]; simp; omega
      simp [kindE, signK, this, h]
    · have : fitsK 17 (1 + p) (1 + p) = false := by simp only [fitsK]; simp; omega
      simp [kindE, signK, this, h]
  have m17 : 1 ≤ p → kindM 17 (1 + p) (1 + p) = 1 := fun h => by
    have : fitsK 17 (1 + p) (1 + p) = true := by simp only [fitsK]; simp; omega
    simp [kindM, signK, this]
  have T16 := fun m hm u => two_to 16 (1 + p) (1 + p) (wrapK (1 + p) x) (wrapK (1 + p) y) m 0 u hm (by simp [twoE, h16.1])
  have b16 : twoM 16 (1 + p) (1 + p) (wrapK (1 + p) x) (wrapK (1 + p) y) = if wrapK (1 + p) x = wrapK (1 + p) y then 1 else 0 := by
    rw [twoM, if_neg (by rw [h16.1]; simp), if_neg (by omega), h16.2, raw_16, wrapK_1]
  have b17 : 1 ≤ p → ∀ u v : Int, twoM 17 (1 + p) (1 + p) u v = if u < v then 1 else 0 := fun h u v => by
    rw [twoM, if_neg (by rw [k17, if_pos h]; simp), if_neg (by omega), m17 h, raw_17, wrapK_1]
  have e17 : ∀ v : Int, twoE 17 (1 + p) (1 + p) v = if 1 ≤ p then 0 else 19 := fun v => by simp [twoE, k17]
  have e7 : ∀ v : Int, twoE 7 (1 + p) (1 + p) v = if 3 ≤ p then 0 else 19 := fun v => by simp [twoE, k7]
  have e8 : ∀ v : Int, twoE 8 (1 + p) (1 + p) v = if 3 ≤ p then 0 else 19 := fun v => by simp [twoE, h8.1, k7]
  have d7 : 3 ≤ p → twoM 7 (1 + p) (1 + p) (wrapK (1 + p) x) (wrapK (1 + p) y) = wrapK (1 + p) (wrap64 (wrapK (1 + p) x + wrapK (1 + p) y)) := fun h => by
    rw [twoM, if_neg (by rw [k7, if_pos h]; simp), if_neg (by omega), m7 h]; simp [rawK]
  have d8 : 3 ≤ p → ∀ v : Int, twoM 8 (1 + p) (1 + p) v (wrapK (1 + p) y) = wrapK (1 + p) (wrap64 (v - wrapK (1 + p) y)) := fun h v => by
    rw [twoM, if_neg (by rw [h8.1, k7, if_pos h]; simp), if_neg (by omega), h8.2, m7 h]; simp [rawK]
  by_cases h3 : 3 ≤ p
  · have hbk := hb (by omega) w1
    rw [← d7 h3, ← d8 h3] at hbk
    generalize wrapK (1 + p) x = X at *
    generalize wrapK (1 + p) y = Y at *
    have T7 := fun u => two_to 7 (1 + p) (1 + p) X Y _ 0 u rfl (by rw [e7, if_pos h3])
    have T8 := fun u => two_to 8 (1 + p) (1 + p) (twoM 7 (1 + p) (1 + p) X Y) Y X 0 u hbk (by rw [e8, if_pos h3])
    generalize twoM 7 (1 + p) (1 + p) X Y = m at *
    have B := b17 (by omega)
    have T17 := fun l hl u => two_to 17 (1 + p) (1 + p) X Y l 0 u hl (by rw [e17, if_pos (by omega)])
    have T71 := fun l hl u => two_to 17 (1 + p) (1 + p) Y X l 0 u hl (by rw [e17, if_pos (by omega)])
    rcases (show X < Y ∨ Y < X ∨ X = Y by omega) with h | h | h
    · exact orders_4l a x y p X Y m 0 0 0 0 w hp0 hp5 HA HX HY T7 T8 (T17 1 (by rw [B, if_pos h])) (T71 0 (by rw [B, if_neg (by omega)])) (T16 0 (by rw [b16, if_neg (by omega)]))
    · exact orders_4g a x y p X Y m 0 0 0 0 w hp0 hp5 HA HX HY T7 T8 (T17 0 (by rw [B, if_neg (by omega)])) (T71 1 (by rw [B, if_pos h])) (T16 0 (by rw [b16, if_neg (by omega)]))
    · exact orders_4e a x y p X Y m 0 0 0 0 w hp0 hp5 HA HX HY T7 T8 (T17 0 (by rw [B, if_neg (by omega)])) (T71 0 (by rw [B, if_neg (by omega)])) (T16 1 (by rw [b16, if_pos h]))
  · generalize wrapK (1 + p) x = X at *
    generalize wrapK (1 + p) y = Y at *
    have T7 := fun u => two_to 7 (1 + p) (1 + p) X Y _ 19 u rfl (by rw [e7, if_neg h3])
    have T8 := fun u => two_to 8 (1 + p) (1 + p) (twoM 7 (1 + p) (1 + p) X Y) Y _ 19 u rfl (by rw [e8, if_neg h3])
    by_cases h1 : 1 ≤ p
    · have B := b17 h1
      have T17 := fun l hl u => two_to 17 (1 + p) (1 + p) X Y l 0 u hl (by rw [e17, if_pos h1])
      have T71 := fun l hl u => two_to 17 (1 + p) (1 + p) Y X l 0 u hl (by rw [e17, if_pos h1])
      rcases (show X < Y ∨ Y < X ∨ X = Y by omega) with h | h | h
      · exact orders_2l a x y p X Y _ _ 0 0 0 w hp0 hp5 HA HX HY T7 T8 (T17 1 (by rw [B, if_pos h])) (T71 0 (by rw [B, if_neg (by omega)])) (T16 0 (by rw [b16, if_neg (by omega)]))
      · exact orders_2g a x y p X Y _ _ 0 0 0 w hp0 hp5 HA HX HY T7 T8 (T17 0 (by rw [B, if_neg (by omega)])) (T71 1 (by rw [B, if_pos h])) (T16 0 (by rw [b16, if_neg (by omega)]))
      · exact orders_2e a x y p X Y _ _ 0 0 0 w hp0 hp5 HA HX HY T7 T8 (T17 0 (by rw [B, if_neg (by omega)])) (T71 0 (by rw [B, if_neg (by omega)])) (T16 1 (by rw [b16, if_pos h]))
    · have T17 := fun u => two_to 17 (1 + p) (1 + p) X Y _ 19 u rfl (by rw [e17, if_neg h1])
      have T71 := fun u => two_to 17 (1 + p) (1 + p) Y X _ 19 u rfl (by rw [e17, if_neg h1])
      exact orders_1 a x y p X Y _ _ _ _ _ w hp0 hp5 HA HX HY T7 T8 T17 T71 (T16 _ rfl)
end Go.Proofs.Ytelfgfoonfajiaa
