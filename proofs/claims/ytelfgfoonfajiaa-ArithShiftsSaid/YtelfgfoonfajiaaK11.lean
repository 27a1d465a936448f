/- Chapter 11: the walk of ArithBits. Printed by genk11.py. -/
import Derived.Test.YtelfgfoonfajiaaJ11
import Derived.BigGuardPart
namespace Go.Proofs.Ytelfgfoonfajiaa
open Go.RowKit
set_option linter.unusedVariables false

/-- What the loop asks of one bit. -/
def BitsAt (X Y m o z n : Int) (k : Nat) : Prop :=
  bits BinOp.and IntKind.i64 (m / 2 ^ k) 1 = wrap64 (bits BinOp.and IntKind.i64 (X / 2 ^ k) 1 * bits BinOp.and IntKind.i64 (Y / 2 ^ k) 1) ∧
  bits BinOp.and IntKind.i64 (o / 2 ^ k) 1 = wrap64 (wrap64 (bits BinOp.and IntKind.i64 (X / 2 ^ k) 1 + bits BinOp.and IntKind.i64 (Y / 2 ^ k) 1) - wrap64 (bits BinOp.and IntKind.i64 (X / 2 ^ k) 1 * bits BinOp.and IntKind.i64 (Y / 2 ^ k) 1)) ∧
  bits BinOp.and IntKind.i64 (z / 2 ^ k) 1 = (wrap64 (bits BinOp.and IntKind.i64 (X / 2 ^ k) 1 + bits BinOp.and IntKind.i64 (Y / 2 ^ k) 1)).tmod 2 ∧
  bits BinOp.and IntKind.i64 (n / 2 ^ k) 1 = wrap64 (1 - bits BinOp.and IntKind.i64 (X / 2 ^ k) 1)

theorem nat_and (a b : Nat) (ha : a < 2 ^ 63) (hb : b < 2 ^ 63) : bits BinOp.and IntKind.i64 (a : Int) (b : Int) = ((a &&& b : Nat) : Int) := by
  show IntKind.i64.wrap ((BitVec.ofInt 64 a &&& BitVec.ofInt 64 b).toNat : Int) = _
  have h : a &&& b ≤ a := Nat.and_le_left
  rw [BitVec.ofInt_natCast, BitVec.ofInt_natCast, BitVec.toNat_and, BitVec.toNat_ofNat, BitVec.toNat_ofNat, Nat.mod_eq_of_lt (by omega), Nat.mod_eq_of_lt (by omega)]
  generalize a &&& b = c at *
  exact IntWalk.i64_in (c : Int) (by omega)
theorem nat_or (a b : Nat) (ha : a < 2 ^ 63) (hb : b < 2 ^ 63) : bits BinOp.or IntKind.i64 (a : Int) (b : Int) = ((a ||| b : Nat) : Int) := by
  show IntKind.i64.wrap ((BitVec.ofInt 64 a ||| BitVec.ofInt 64 b).toNat : Int) = _
  have h : a ||| b < 2 ^ 63 := Nat.or_lt_two_pow ha hb
  rw [BitVec.ofInt_natCast, BitVec.ofInt_natCast, BitVec.toNat_or, BitVec.toNat_ofNat, BitVec.toNat_ofNat, Nat.mod_eq_of_lt (by omega), Nat.mod_eq_of_lt (by omega)]
  generalize a ||| b = c at *
  exact IntWalk.i64_in (c : Int) (by omega)
theorem nat_xor (a b : Nat) (ha : a < 2 ^ 63) (hb : b < 2 ^ 63) : bits BinOp.xor IntKind.i64 (a : Int) (b : Int) = ((a ^^^ b : Nat) : Int) := by
  show IntKind.i64.wrap ((BitVec.ofInt 64 a ^^^ BitVec.ofInt 64 b).toNat : Int) = _
  have h : a ^^^ b < 2 ^ 63 := Nat.xor_lt_two_pow ha hb
  rw [BitVec.ofInt_natCast, BitVec.ofInt_natCast, BitVec.toNat_xor, BitVec.toNat_ofNat, BitVec.toNat_ofNat, Nat.mod_eq_of_lt (by omega), Nat.mod_eq_of_lt (by omega)]
  generalize a ^^^ b = c at *
  exact IntWalk.i64_in (c : Int) (by omega)

theorem bit_of (v k : Nat) (hv : v < 2 ^ 63) : bits BinOp.and IntKind.i64 ((v : Int) / 2 ^ k) 1 = ((v.testBit k).toNat : Int) := by
  have h : ((v : Int) / 2 ^ k) = ((v / 2 ^ k : Nat) : Int) := by simp
  have h2 : v / 2 ^ k ≤ v := Nat.div_le_self _ _
  have h3 := nat_and (v / 2 ^ k) 1 (by omega) (by decide)
  rw [h]
  rw [show (1 : Int) = ((1 : Nat) : Int) from rfl, h3, Nat.and_one_is_mod, Nat.toNat_testBit]

theorem and_or_sum (x : Nat) : ∀ y : Nat, (x &&& y) + (x ||| y) = x + y := by
  induction x using Nat.strongRecOn with
  | _ x ih =>
    intro y
    by_cases hx : x = 0
    · subst hx; simp
    · have e := ih (x / 2) (by omega) (y / 2)
      have a1 : (x &&& y) / 2 = x / 2 &&& y / 2 := Nat.and_div_two
      have o1 : (x ||| y) / 2 = x / 2 ||| y / 2 := Nat.or_div_two
      have a2 : (x &&& y) % 2 = 1 ↔ x % 2 = 1 ∧ y % 2 = 1 := Nat.and_mod_two_eq_one
      have o2 : (x ||| y) % 2 = 1 ↔ x % 2 = 1 ∨ y % 2 = 1 := Nat.or_mod_two_eq_one
      rw [← a1, ← o1] at e
      generalize x &&& y = s at *
      generalize x ||| y = t at *
      omega

theorem bits_plain (W : Nat) (hW : W ≤ 16) (x y k : Nat) (hx : x < 2 ^ W) (hy : y < 2 ^ W) (hk : k < W) :
    BitsAt x y ((x &&& y : Nat) : Int) ((x ||| y : Nat) : Int) ((x ^^^ y : Nat) : Int) ((2 ^ W - (x + 1) : Nat) : Int) k := by
  have hp : 2 ^ W ≤ 2 ^ 16 := Nat.pow_le_pow_right (by omega) hW
  have hx' : x < 2 ^ 63 := by omega
  have hy' : y < 2 ^ 63 := by omega
  have ha : x &&& y < 2 ^ 63 := Nat.lt_of_le_of_lt Nat.and_le_left hx'
  have ho : x ||| y < 2 ^ 63 := Nat.or_lt_two_pow hx' hy'
  have hz : x ^^^ y < 2 ^ 63 := Nat.xor_lt_two_pow hx' hy'
  have hn : 2 ^ W - (x + 1) < 2 ^ 63 := by omega
  unfold BitsAt
  rw [bit_of _ _ hx', bit_of _ _ hy', bit_of _ _ ha, bit_of _ _ ho, bit_of _ _ hz, bit_of _ _ hn, Nat.testBit_and, Nat.testBit_or, Nat.testBit_xor, Nat.testBit_two_pow_sub_succ hx]
  simp only [hk, decide_true, Bool.true_and]
  cases x.testBit k <;> cases y.testBit k <;> simp [wrap64, Bool.toNat]

set_option maxRecDepth 20000 in
set_option maxHeartbeats 1600000 in
theorem bits_core_1 (a x y X Y m o z n : Int) (w : World)
    (hbits : ∀ k : Nat, k < 1 → BitsAt X Y m o z n k) (hs : wrap64 (m + o) = wrap64 (X + Y)) (hm : m < 2) (hn0 : 0 ≤ n) (hn1 : n < 2)
    (ha : ∀ u, Calls Try.prog 16 #[.int .i64 a, .int .i64 3] u fun e w' => e = .returned (.int .i64 0) ∧ u = w')
    (hx : ∀ u, Calls Try.prog 18 #[.int .i64 1, .int .i64 x] u fun e w' => e = .returned (.int .i64 X) ∧ u = w')
    (hy : ∀ u, Calls Try.prog 18 #[.int .i64 1, .int .i64 y] u fun e w' => e = .returned (.int .i64 Y) ∧ u = w')
    (h12 : ∀ u, Calls Try.prog 19 #[.int .i64 12, .int .i64 1, .int .i64 1, .int .i64 X, .int .i64 Y] u fun r w' => r = .returned (.tuple #[.int .i64 m, .int .i64 0]) ∧ Below u.heap.size u w')
    (h13 : ∀ u, Calls Try.prog 19 #[.int .i64 13, .int .i64 1, .int .i64 1, .int .i64 X, .int .i64 Y] u fun r w' => r = .returned (.tuple #[.int .i64 o, .int .i64 0]) ∧ Below u.heap.size u w')
    (h14 : ∀ u, Calls Try.prog 19 #[.int .i64 14, .int .i64 1, .int .i64 1, .int .i64 X, .int .i64 Y] u fun r w' => r = .returned (.tuple #[.int .i64 z, .int .i64 0]) ∧ Below u.heap.size u w')
    (hn : ∀ u, Calls Try.prog 22 #[.int .i64 1, .int .i64 X] u fun e w' => e = .returned (.int .i64 n) ∧ u = w') :
    Calls Try.prog 11 #[.int .i64 a, .int .i64 x, .int .i64 y] w fun e w' => e = .returned (.bool true) ∧ Below w.heap.size w w' := by
  have HA := Lib.hid ha
  have HX := Lib.hid hx
  have HY := Lib.hid hy
  have H12 := Lib.hid h12
  have H13 := Lib.hid h13
  have H14 := Lib.hid h14
  have HN := Lib.hid hn
  have HK := Lib.hid hbits
  have HS := Lib.hid hs
  have HM := Lib.hid hm
  have HN0 := Lib.hid hn0
  have HN1 := Lib.hid hn1
  clear ha hx hy h12 h13 h14 hn hbits hs hm hn0 hn1
  go_enter Try.func11, Try.ntmps11
  go_wp2_with fail
  refine (known_any _).mono ?_
  rintro e u1 ⟨rfl, hb1⟩
  have HB1 := Lib.hid hb1
  clear hb1
  go_wp2_with fail
  refine (HA.out _).mono ?_
  rintro e _ ⟨rfl, rfl⟩
  go_wp2_with fail
  refine (HX.out _).mono ?_
  rintro e _ ⟨rfl, rfl⟩
  go_wp2_with fail
  refine (HY.out _).mono ?_
  rintro e _ ⟨rfl, rfl⟩
  go_wp2_with fail
  refine (H12.out _).mono ?_
  rintro e u2 ⟨rfl, hb2⟩
  have HB2 := Lib.hid (HB1.out.trans (hb2.mono HB1.out.size))
  clear hb2 HB1
  go_wp2_with fail
  refine (H13.out _).mono ?_
  rintro e u3 ⟨rfl, hb3⟩
  have HB3 := Lib.hid (HB2.out.trans (hb3.mono HB2.out.size))
  clear hb3 HB2
  go_wp2_with fail
  refine (H14.out _).mono ?_
  rintro e u4 ⟨rfl, hb4⟩
  have HB4 := Lib.hid (HB3.out.trans (hb4.mono HB3.out.size))
  clear hb4 HB3
  go_wp2_with fail
  refine (HN.out _).mono ?_
  rintro e _ ⟨rfl, rfl⟩
  go_wp2_with fail
  go_loopw [15] (fun i wr => ∃ k : Nat, k ≤ 1 ∧ i = .int .i64 k ∧ Below w.heap.size w wr) (fun i _ => 1 - (intOf i).toNat)
  case atStart => exact ⟨0, by omega, rfl, HB4.out.alloc HB4.out.size _⟩
  case round =>
    obtain ⟨k, hk, rfl, hb⟩ := hrel
    have HB := Lib.hid hb
    clear hb HA HX HY H12 H13 H14 HN
    by_cases hlt : k < 1
    · go_wp2
      all_goals (obtain ⟨k1, k2, k3, k4⟩ := HK.out k hlt)
      all_goals first
        | (exfalso; contradiction)
        | (exfalso; simp_all; done)
        | skip
      all_goals go_roundw
      case rel => exact ⟨k + 1, by omega, by go_num, HB.out⟩
      case measure => simp [intOf]; omega
    · go_wp2
      all_goals (have hs := HS.out; have hm := HM.out; have hn0 := HN0.out; have hn1 := HN1.out)
      all_goals first
        | (exfalso; contradiction)
        | (exfalso; omega)
        | (go_ret; exact ⟨by simp [hn1], HB.out⟩)

set_option maxRecDepth 20000 in
set_option maxHeartbeats 1600000 in
theorem bits_core_2 (a x y X Y m o z n : Int) (w : World)
    (hbits : ∀ k : Nat, k < 8 → BitsAt X Y m o z n k) (hs : wrap64 (m + o) = wrap64 (X + Y)) (hm : m < 256) (hn0 : 0 ≤ n) (hn1 : n < 256)
    (ha : ∀ u, Calls Try.prog 16 #[.int .i64 a, .int .i64 3] u fun e w' => e = .returned (.int .i64 1) ∧ u = w')
    (hx : ∀ u, Calls Try.prog 18 #[.int .i64 2, .int .i64 x] u fun e w' => e = .returned (.int .i64 X) ∧ u = w')
    (hy : ∀ u, Calls Try.prog 18 #[.int .i64 2, .int .i64 y] u fun e w' => e = .returned (.int .i64 Y) ∧ u = w')
    (h12 : ∀ u, Calls Try.prog 19 #[.int .i64 12, .int .i64 2, .int .i64 2, .int .i64 X, .int .i64 Y] u fun r w' => r = .returned (.tuple #[.int .i64 m, .int .i64 0]) ∧ Below u.heap.size u w')
    (h13 : ∀ u, Calls Try.prog 19 #[.int .i64 13, .int .i64 2, .int .i64 2, .int .i64 X, .int .i64 Y] u fun r w' => r = .returned (.tuple #[.int .i64 o, .int .i64 0]) ∧ Below u.heap.size u w')
    (h14 : ∀ u, Calls Try.prog 19 #[.int .i64 14, .int .i64 2, .int .i64 2, .int .i64 X, .int .i64 Y] u fun r w' => r = .returned (.tuple #[.int .i64 z, .int .i64 0]) ∧ Below u.heap.size u w')
    (hn : ∀ u, Calls Try.prog 22 #[.int .i64 2, .int .i64 X] u fun e w' => e = .returned (.int .i64 n) ∧ u = w') :
    Calls Try.prog 11 #[.int .i64 a, .int .i64 x, .int .i64 y] w fun e w' => e = .returned (.bool true) ∧ Below w.heap.size w w' := by
  have HA := Lib.hid ha
  have HX := Lib.hid hx
  have HY := Lib.hid hy
  have H12 := Lib.hid h12
  have H13 := Lib.hid h13
  have H14 := Lib.hid h14
  have HN := Lib.hid hn
  have HK := Lib.hid hbits
  have HS := Lib.hid hs
  have HM := Lib.hid hm
  have HN0 := Lib.hid hn0
  have HN1 := Lib.hid hn1
  clear ha hx hy h12 h13 h14 hn hbits hs hm hn0 hn1
  go_enter Try.func11, Try.ntmps11
  go_wp2_with fail
  refine (known_any _).mono ?_
  rintro e u1 ⟨rfl, hb1⟩
  have HB1 := Lib.hid hb1
  clear hb1
  go_wp2_with fail
  refine (HA.out _).mono ?_
  rintro e _ ⟨rfl, rfl⟩
  go_wp2_with fail
  refine (HX.out _).mono ?_
  rintro e _ ⟨rfl, rfl⟩
  go_wp2_with fail
  refine (HY.out _).mono ?_
  rintro e _ ⟨rfl, rfl⟩
  go_wp2_with fail
  refine (H12.out _).mono ?_
  rintro e u2 ⟨rfl, hb2⟩
  have HB2 := Lib.hid (HB1.out.trans (hb2.mono HB1.out.size))
  clear hb2 HB1
  go_wp2_with fail
  refine (H13.out _).mono ?_
  rintro e u3 ⟨rfl, hb3⟩
  have HB3 := Lib.hid (HB2.out.trans (hb3.mono HB2.out.size))
  clear hb3 HB2
  go_wp2_with fail
  refine (H14.out _).mono ?_
  rintro e u4 ⟨rfl, hb4⟩
  have HB4 := Lib.hid (HB3.out.trans (hb4.mono HB3.out.size))
  clear hb4 HB3
  go_wp2_with fail
  refine (HN.out _).mono ?_
  rintro e _ ⟨rfl, rfl⟩
  go_wp2_with fail
  go_loopw [15] (fun i wr => ∃ k : Nat, k ≤ 8 ∧ i = .int .i64 k ∧ Below w.heap.size w wr) (fun i _ => 8 - (intOf i).toNat)
  case atStart => exact ⟨0, by omega, rfl, HB4.out.alloc HB4.out.size _⟩
  case round =>
    obtain ⟨k, hk, rfl, hb⟩ := hrel
    have HB := Lib.hid hb
    clear hb HA HX HY H12 H13 H14 HN
    by_cases hlt : k < 8
    · go_wp2
      all_goals (obtain ⟨k1, k2, k3, k4⟩ := HK.out k hlt)
      all_goals first
        | (exfalso; contradiction)
        | (exfalso; simp_all; done)
        | skip
      all_goals go_roundw
      case rel => exact ⟨k + 1, by omega, by go_num, HB.out⟩
      case measure => simp [intOf]; omega
    · go_wp2
      all_goals (have hs := HS.out; have hm := HM.out; have hn0 := HN0.out; have hn1 := HN1.out)
      all_goals first
        | (exfalso; contradiction)
        | (exfalso; omega)
        | (go_ret; exact ⟨by simp [hn1], HB.out⟩)

set_option maxRecDepth 20000 in
set_option maxHeartbeats 1600000 in
theorem bits_core_3 (a x y X Y m o z n : Int) (w : World)
    (hbits : ∀ k : Nat, k < 16 → BitsAt X Y m o z n k) (hs : wrap64 (m + o) = wrap64 (X + Y)) (hm : m < 65536) (hn0 : 0 ≤ n) (hn1 : n < 65536)
    (ha : ∀ u, Calls Try.prog 16 #[.int .i64 a, .int .i64 3] u fun e w' => e = .returned (.int .i64 2) ∧ u = w')
    (hx : ∀ u, Calls Try.prog 18 #[.int .i64 3, .int .i64 x] u fun e w' => e = .returned (.int .i64 X) ∧ u = w')
    (hy : ∀ u, Calls Try.prog 18 #[.int .i64 3, .int .i64 y] u fun e w' => e = .returned (.int .i64 Y) ∧ u = w')
    (h12 : ∀ u, Calls Try.prog 19 #[.int .i64 12, .int .i64 3, .int .i64 3, .int .i64 X, .int .i64 Y] u fun r w' => r = .returned (.tuple #[.int .i64 m, .int .i64 0]) ∧ Below u.heap.size u w')
    (h13 : ∀ u, Calls Try.prog 19 #[.int .i64 13, .int .i64 3, .int .i64 3, .int .i64 X, .int .i64 Y] u fun r w' => r = .returned (.tuple #[.int .i64 o, .int .i64 0]) ∧ Below u.heap.size u w')
    (h14 : ∀ u, Calls Try.prog 19 #[.int .i64 14, .int .i64 3, .int .i64 3, .int .i64 X, .int .i64 Y] u fun r w' => r = .returned (.tuple #[.int .i64 z, .int .i64 0]) ∧ Below u.heap.size u w')
    (hn : ∀ u, Calls Try.prog 22 #[.int .i64 3, .int .i64 X] u fun e w' => e = .returned (.int .i64 n) ∧ u = w') :
    Calls Try.prog 11 #[.int .i64 a, .int .i64 x, .int .i64 y] w fun e w' => e = .returned (.bool true) ∧ Below w.heap.size w w' := by
  have HA := Lib.hid ha
  have HX := Lib.hid hx
  have HY := Lib.hid hy
  have H12 := Lib.hid h12
  have H13 := Lib.hid h13
  have H14 := Lib.hid h14
  have HN := Lib.hid hn
  have HK := Lib.hid hbits
  have HS := Lib.hid hs
  have HM := Lib.hid hm
  have HN0 := Lib.hid hn0
  have HN1 := Lib.hid hn1
  clear ha hx hy h12 h13 h14 hn hbits hs hm hn0 hn1
  go_enter Try.func11, Try.ntmps11
  go_wp2_with fail
  refine (known_any _).mono ?_
  rintro e u1 ⟨rfl, hb1⟩
  have HB1 := Lib.hid hb1
  clear hb1
  go_wp2_with fail
  refine (HA.out _).mono ?_
  rintro e _ ⟨rfl, rfl⟩
  go_wp2_with fail
  refine (HX.out _).mono ?_
  rintro e _ ⟨rfl, rfl⟩
  go_wp2_with fail
  refine (HY.out _).mono ?_
  rintro e _ ⟨rfl, rfl⟩
  go_wp2_with fail
  refine (H12.out _).mono ?_
  rintro e u2 ⟨rfl, hb2⟩
  have HB2 := Lib.hid (HB1.out.trans (hb2.mono HB1.out.size))
  clear hb2 HB1
  go_wp2_with fail
  refine (H13.out _).mono ?_
  rintro e u3 ⟨rfl, hb3⟩
  have HB3 := Lib.hid (HB2.out.trans (hb3.mono HB2.out.size))
  clear hb3 HB2
  go_wp2_with fail
  refine (H14.out _).mono ?_
  rintro e u4 ⟨rfl, hb4⟩
  have HB4 := Lib.hid (HB3.out.trans (hb4.mono HB3.out.size))
  clear hb4 HB3
  go_wp2_with fail
  refine (HN.out _).mono ?_
  rintro e _ ⟨rfl, rfl⟩
  go_wp2_with fail
  go_loopw [15] (fun i wr => ∃ k : Nat, k ≤ 16 ∧ i = .int .i64 k ∧ Below w.heap.size w wr) (fun i _ => 16 - (intOf i).toNat)
  case atStart => exact ⟨0, by omega, rfl, HB4.out.alloc HB4.out.size _⟩
  case round =>
    obtain ⟨k, hk, rfl, hb⟩ := hrel
    have HB := Lib.hid hb
    clear hb HA HX HY H12 H13 H14 HN
    by_cases hlt : k < 16
    · go_wp2
      all_goals (obtain ⟨k1, k2, k3, k4⟩ := HK.out k hlt)
      all_goals first
        | (exfalso; contradiction)
        | (exfalso; simp_all; done)
        | skip
      all_goals go_roundw
      case rel => exact ⟨k + 1, by omega, by go_num, HB.out⟩
      case measure => simp [intOf]; omega
    · go_wp2
      all_goals (have hs := HS.out; have hm := HM.out; have hn0 := HN0.out; have hn1 := HN1.out)
      all_goals first
        | (exfalso; contradiction)
        | (exfalso; omega)
        | (go_ret; exact ⟨by simp [hn1], HB.out⟩)

theorem wrapK_nat (K W : Nat) (h : K = 1 ∧ W = 1 ∨ K = 2 ∧ W = 8 ∨ K = 3 ∧ W = 16) (v : Nat) (hv : v < 2 ^ W) : wrapK K v = v := by
  rcases h with ⟨rfl, rfl⟩ | ⟨rfl, rfl⟩ | ⟨rfl, rfl⟩
  · simp [wrapK]; omega
  · simp [wrapK]; omega
  · simp [wrapK]; omega
theorem wrapK_is (K W : Nat) (h : K = 1 ∧ W = 1 ∨ K = 2 ∧ W = 8 ∨ K = 3 ∧ W = 16) (x : Int) : ∃ v : Nat, v < 2 ^ W ∧ wrapK K x = v := by
  have h0 : 0 ≤ wrapK K x ∧ wrapK K x < 2 ^ W := by
    rcases h with ⟨rfl, rfl⟩ | ⟨rfl, rfl⟩ | ⟨rfl, rfl⟩
    · simp [wrapK]; split <;> omega
    · simp [wrapK]; omega
    · simp [wrapK]; omega
  refine ⟨(wrapK K x).toNat, ?_, by omega⟩
  rcases h with ⟨rfl, rfl⟩ | ⟨rfl, rfl⟩ | ⟨rfl, rfl⟩ <;> omega
theorem notK_nat (K W : Nat) (h : K = 1 ∧ W = 1 ∨ K = 2 ∧ W = 8 ∨ K = 3 ∧ W = 16) (v : Nat) (hv : v < 2 ^ W) : notK K v = ((2 ^ W - (v + 1) : Nat) : Int) := by
  rcases h with ⟨rfl, rfl⟩ | ⟨rfl, rfl⟩ | ⟨rfl, rfl⟩
  · have hv' : v < 2 := by simpa using hv
    simp only [notK]; unfold wrap64; simp; omega
  · rw [show ((2 : Nat) : Int) = 2 from rfl, notK_lo v 2 (.inl rfl) ⟨by omega, by omega⟩]; simp [wrapK]; omega
  · rw [show ((3 : Nat) : Int) = 3 from rfl, notK_lo v 3 (.inr rfl) ⟨by omega, by omega⟩]; simp [wrapK]; omega

theorem bits_two (K s : Int) (hK : K = 1 ∨ K = 2 ∨ K = 3) (hs : s = 12 ∨ s = 13 ∨ s = 14) (X Y v : Int) (h : wrapK K (rawK s X Y) = v) (u : World) :
    Calls Try.prog 19 #[.int .i64 s, .int .i64 K, .int .i64 K, .int .i64 X, .int .i64 Y] u fun r w' => r = .returned (.tuple #[.int .i64 v, .int .i64 0]) ∧ Below u.heap.size u w' := by
  have hf : fitsK s K K = true := by rcases hs with rfl | rfl | rfl <;> rcases hK with rfl | rfl | rfl <;> decide
  have hg : signK s = true := by rcases hs with rfl | rfl | rfl <;> decide
  have he : kindE s K K = 0 := by simp [kindE, hf, hg]
  have hk : kindM s K K = K := by simp [kindM, hf, hg]; omega
  refine two_to s K K X Y v 0 u ?_ ?_
  · rw [twoM, if_neg (by rw [he]; simp), if_neg (by omega), hk, h]
  · rw [twoE, if_neg (by rw [he]; simp), if_neg (by omega)]

theorem arithBits_walk (a x y : Int) (w : World) (w0 : I64 a) (w1 : I64 x) (w2 : I64 y) :
    Calls Try.prog 11 #[.int .i64 a, .int .i64 x, .int .i64 y] w fun e w' => e = .returned (.bool true) ∧ Below w.heap.size w w' := by
  have HA := fun u => within_any a 3 (by decide) (by decide) u

  have case1 : a % 3 = 0 → Calls Try.prog 11 #[.int .i64 a, .int .i64 x, .int .i64 y] w fun e w' => e = .returned (.bool true) ∧ Below w.heap.size w w' := by
    intro ha
    rw [ha] at HA
    have hc : (1 : Nat) = 1 ∧ (1 : Nat) = 1 ∨ (1 : Nat) = 2 ∧ (1 : Nat) = 8 ∨ (1 : Nat) = 3 ∧ (1 : Nat) = 16 := by decide
    obtain ⟨X, hX, eX⟩ := wrapK_is 1 1 hc x
    obtain ⟨Y, hY, eY⟩ := wrapK_is 1 1 hc y
    have HX := fun u => rwrap_any 1 x u
    have HY := fun u => rwrap_any 1 y u
    have e1 := wrapK_nat 1 1 hc (X &&& Y) (Nat.lt_of_le_of_lt Nat.and_le_left hX)
    have e2 := wrapK_nat 1 1 hc (X ||| Y) (Nat.or_lt_two_pow hX hY)
    have e3 := wrapK_nat 1 1 hc (X ^^^ Y) (Nat.xor_lt_two_pow hX hY)
    have e4 := notK_nat 1 1 hc X hX
    have hl := Nat.lt_of_le_of_lt (Nat.and_le_left (n := X) (m := Y)) hX
    have hsum := and_or_sum X Y
    refine bits_core_1 a x y X Y ((X &&& Y : Nat) : Int) ((X ||| Y : Nat) : Int) ((X ^^^ Y : Nat) : Int) ((2 ^ 1 - (X + 1) : Nat) : Int) w
      (fun k hk => bits_plain 1 (by decide) X Y k hX hY hk) ?_ ?_ ?_ ?_ HA ?_ ?_ ?_ ?_ ?_ ?_
    · congr 1; omega
    · omega
    · omega
    · omega
    · intro u; have := rwrap_any 1 x u; rw [show (1 : Int) = ((1 : Nat) : Int) from rfl, eX] at this; exact this
    · intro u; have := rwrap_any 1 y u; rw [show (1 : Int) = ((1 : Nat) : Int) from rfl, eY] at this; exact this
    · exact fun u => bits_two 1 12 (by decide) (by decide) X Y _ (by rw [show rawK 12 (X : Int) Y = bits BinOp.and IntKind.i64 X Y by simp [rawK], nat_and X Y (by omega) (by omega)]; exact e1) u
    · exact fun u => bits_two 1 13 (by decide) (by decide) X Y _ (by rw [show rawK 13 (X : Int) Y = bits BinOp.or IntKind.i64 X Y by simp [rawK], nat_or X Y (by omega) (by omega)]; exact e2) u
    · exact fun u => bits_two 1 14 (by decide) (by decide) X Y _ (by rw [show rawK 14 (X : Int) Y = bits BinOp.xor IntKind.i64 X Y by simp [rawK], nat_xor X Y (by omega) (by omega)]; exact e3) u
    · intro u; have := pnot_any 1 X u; rw [show (1 : Int) = ((1 : Nat) : Int) from rfl, e4] at this; exact this

  have case2 : a % 3 = 1 → Calls Try.prog 11 #[.int .i64 a, .int .i64 x, .int .i64 y] w fun e w' => e = .returned (.bool true) ∧ Below w.heap.size w w' := by
    intro ha
    rw [ha] at HA
    have hc : (2 : Nat) = 1 ∧ (8 : Nat) = 1 ∨ (2 : Nat) = 2 ∧ (8 : Nat) = 8 ∨ (2 : Nat) = 3 ∧ (8 : Nat) = 16 := by decide
    obtain ⟨X, hX, eX⟩ := wrapK_is 2 8 hc x
    obtain ⟨Y, hY, eY⟩ := wrapK_is 2 8 hc y
    have HX := fun u => rwrap_any 2 x u
    have HY := fun u => rwrap_any 2 y u
    have e1 := wrapK_nat 2 8 hc (X &&& Y) (Nat.lt_of_le_of_lt Nat.and_le_left hX)
    have e2 := wrapK_nat 2 8 hc (X ||| Y) (Nat.or_lt_two_pow hX hY)
    have e3 := wrapK_nat 2 8 hc (X ^^^ Y) (Nat.xor_lt_two_pow hX hY)
    have e4 := notK_nat 2 8 hc X hX
    have hl := Nat.lt_of_le_of_lt (Nat.and_le_left (n := X) (m := Y)) hX
    have hsum := and_or_sum X Y
    refine bits_core_2 a x y X Y ((X &&& Y : Nat) : Int) ((X ||| Y : Nat) : Int) ((X ^^^ Y : Nat) : Int) ((2 ^ 8 - (X + 1) : Nat) : Int) w
      (fun k hk => bits_plain 8 (by decide) X Y k hX hY hk) ?_ ?_ ?_ ?_ HA ?_ ?_ ?_ ?_ ?_ ?_
    · congr 1; omega
    · omega
    · omega
    · omega
    · intro u; have := rwrap_any 2 x u; rw [show (2 : Int) = ((2 : Nat) : Int) from rfl, eX] at this; exact this
    · intro u; have := rwrap_any 2 y u; rw [show (2 : Int) = ((2 : Nat) : Int) from rfl, eY] at this; exact this
    · exact fun u => bits_two 2 12 (by decide) (by decide) X Y _ (by rw [show rawK 12 (X : Int) Y = bits BinOp.and IntKind.i64 X Y by simp [rawK], nat_and X Y (by omega) (by omega)]; exact e1) u
    · exact fun u => bits_two 2 13 (by decide) (by decide) X Y _ (by rw [show rawK 13 (X : Int) Y = bits BinOp.or IntKind.i64 X Y by simp [rawK], nat_or X Y (by omega) (by omega)]; exact e2) u
    · exact fun u => bits_two 2 14 (by decide) (by decide) X Y _ (by rw [show rawK 14 (X : Int) Y = bits BinOp.xor IntKind.i64 X Y by simp [rawK], nat_xor X Y (by omega) (by omega)]; exact e3) u
    · intro u; have := pnot_any 2 X u; rw [show (2 : Int) = ((2 : Nat) : Int) from rfl, e4] at this; exact this

  have case3 : a % 3 = 2 → Calls Try.prog 11 #[.int .i64 a, .int .i64 x, .int .i64 y] w fun e w' => e = .returned (.bool true) ∧ Below w.heap.size w w' := by
    intro ha
    rw [ha] at HA
    have hc : (3 : Nat) = 1 ∧ (16 : Nat) = 1 ∨ (3 : Nat) = 2 ∧ (16 : Nat) = 8 ∨ (3 : Nat) = 3 ∧ (16 : Nat) = 16 := by decide
    obtain ⟨X, hX, eX⟩ := wrapK_is 3 16 hc x
    obtain ⟨Y, hY, eY⟩ := wrapK_is 3 16 hc y
    have HX := fun u => rwrap_any 3 x u
    have HY := fun u => rwrap_any 3 y u
    have e1 := wrapK_nat 3 16 hc (X &&& Y) (Nat.lt_of_le_of_lt Nat.and_le_left hX)
    have e2 := wrapK_nat 3 16 hc (X ||| Y) (Nat.or_lt_two_pow hX hY)
    have e3 := wrapK_nat 3 16 hc (X ^^^ Y) (Nat.xor_lt_two_pow hX hY)
    have e4 := notK_nat 3 16 hc X hX
    have hl := Nat.lt_of_le_of_lt (Nat.and_le_left (n := X) (m := Y)) hX
    have hsum := and_or_sum X Y
    refine bits_core_3 a x y X Y ((X &&& Y : Nat) : Int) ((X ||| Y : Nat) : Int) ((X ^^^ Y : Nat) : Int) ((2 ^ 16 - (X + 1) : Nat) : Int) w
      (fun k hk => bits_plain 16 (by decide) X Y k hX hY hk) ?_ ?_ ?_ ?_ HA ?_ ?_ ?_ ?_ ?_ ?_
    · congr 1; omega
    · omega
    · omega
    · omega
    · intro u; have := rwrap_any 3 x u; rw [show (3 : Int) = ((3 : Nat) : Int) from rfl, eX] at this; exact this
    · intro u; have := rwrap_any 3 y u; rw [show (3 : Int) = ((3 : Nat) : Int) from rfl, eY] at this; exact this
    · exact fun u => bits_two 3 12 (by decide) (by decide) X Y _ (by rw [show rawK 12 (X : Int) Y = bits BinOp.and IntKind.i64 X Y by simp [rawK], nat_and X Y (by omega) (by omega)]; exact e1) u
    · exact fun u => bits_two 3 13 (by decide) (by decide) X Y _ (by rw [show rawK 13 (X : Int) Y = bits BinOp.or IntKind.i64 X Y by simp [rawK], nat_or X Y (by omega) (by omega)]; exact e2) u
    · exact fun u => bits_two 3 14 (by decide) (by decide) X Y _ (by rw [show rawK 14 (X : Int) Y = bits BinOp.xor IntKind.i64 X Y by simp [rawK], nat_xor X Y (by omega) (by omega)]; exact e3) u
    · intro u; have := pnot_any 3 X u; rw [show (3 : Int) = ((3 : Nat) : Int) from rfl, e4] at this; exact this

  rcases (show a % 3 = 0 ∨ a % 3 = 1 ∨ a % 3 = 2 by omega) with h | h | h
  · exact case1 h
  · exact case2 h
  · exact case3 h
end Go.Proofs.Ytelfgfoonfajiaa
