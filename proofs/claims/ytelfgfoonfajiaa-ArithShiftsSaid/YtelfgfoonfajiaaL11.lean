/- Chapter 11: the walk of ArithShifts. Printed by genl11.py. -/
import Derived.Test.YtelfgfoonfajiaaK11
import Derived.BigGuardPart
namespace Go.Proofs.Ytelfgfoonfajiaa
open Go.RowKit
set_option linter.unusedVariables false

/-- What the loop asks of one bit. -/
def ShiftAt (W X Y m o : Int) (k : Nat) : Prop :=
  bits BinOp.and IntKind.i64 (m / 2 ^ k) 1 = (if 0 ≤ Y ∧ Y ≤ (k : Int) then bits BinOp.and IntKind.i64 (X / 2 ^ ((k : Int) - Y).toNat) 1 else 0) ∧
  bits BinOp.and IntKind.i64 (o / 2 ^ k) 1 = (if 0 ≤ Y ∧ Y < W - (k : Int) then bits BinOp.and IntKind.i64 (X / 2 ^ ((k : Int) + Y).toNat) 1 else 0)

theorem bit_zero (k : Nat) : bits BinOp.and IntKind.i64 ((0 : Int) / 2 ^ k) 1 = 0 := by
  have := bit_of 0 k (by decide)
  simpa using this

theorem shift_none (W : Int) (hW : W ≤ 16) (X Y : Int) (k : Nat) (hk : (k : Int) < W) (h : Y < 0 ∨ 63 < Y) : ShiftAt W X Y 0 0 k := by
  refine ⟨?_, ?_⟩
  · rw [bit_zero, if_neg (by omega)]
  · rw [bit_zero, if_neg (by omega)]

theorem shift_some (W : Nat) (hW : W ≤ 16) (v s k : Nat) (hv : v < 2 ^ W) (hk : k < W) : ShiftAt W v s ((v * 2 ^ s % 2 ^ W : Nat) : Int) ((v / 2 ^ s : Nat) : Int) k := by
  have hp : 2 ^ W ≤ 2 ^ 16 := Nat.pow_le_pow_right (by omega) hW
  have hm : v * 2 ^ s % 2 ^ W < 2 ^ W := Nat.mod_lt _ (Nat.pow_pos (by omega))
  have hd : v / 2 ^ s ≤ v := Nat.div_le_self _ _
  refine ⟨?_, ?_⟩
  · rw [bit_of _ _ (by omega), Nat.testBit_mod_two_pow, ← Nat.shiftLeft_eq, Nat.testBit_shiftLeft]
    by_cases h : s ≤ k
    · rw [if_pos (by omega), show ((k : Int) - (s : Int)).toNat = k - s by omega, bit_of _ _ (by omega)]
      simp [h, hk]
    · rw [if_neg (by omega)]
      simp [h]
  · rw [bit_of _ _ (by omega), ← Nat.shiftRight_eq_div_pow, Nat.testBit_shiftRight]
    by_cases h : s < W - k
    · rw [if_pos (by omega), show ((k : Int) + (s : Int)).toNat = s + k by omega, bit_of _ _ (by omega)]
    · rw [if_neg (by omega), Nat.testBit_lt_two_pow (Nat.lt_of_lt_of_le hv (Nat.pow_le_pow_right (by omega) (by omega)))]
      simp

set_option maxRecDepth 20000 in
set_option maxHeartbeats 1600000 in
theorem shifts_core_2 (x y X Y m o : Int) (w : World)
    (hk : ∀ k : Nat, k < 8 → ShiftAt 8 X Y m o k) (hm : 0 ≤ m ∧ m < 256) (hn : 0 ≤ o ∧ o < 256)
    (ha : ∀ u, Calls Try.prog 18 #[.int .i64 2, .int .i64 x] u fun e w' => e = .returned (.int .i64 X) ∧ u = w')
    (hy : ∀ u, Calls Try.prog 18 #[.int .i64 5, .int .i64 y] u fun e w' => e = .returned (.int .i64 Y) ∧ u = w')
    (h28 : ∀ u, Calls Try.prog 19 #[.int .i64 28, .int .i64 2, .int .i64 5, .int .i64 X, .int .i64 Y] u fun r w' => r = .returned (.tuple #[.int .i64 m, .int .i64 0]) ∧ Below u.heap.size u w')
    (h29 : ∀ u, Calls Try.prog 19 #[.int .i64 29, .int .i64 2, .int .i64 5, .int .i64 X, .int .i64 Y] u fun r w' => r = .returned (.tuple #[.int .i64 o, .int .i64 0]) ∧ Below u.heap.size u w') :
    Calls Try.prog 7 #[.bool false, .int .i64 x, .int .i64 y] w fun e w' => e = .returned (.bool true) ∧ Below w.heap.size w w' := by
  have HA := Lib.hid ha
  have HY := Lib.hid hy
  have H28 := Lib.hid h28
  have H29 := Lib.hid h29
  have HK := Lib.hid hk
  have HM := Lib.hid hm
  have HN := Lib.hid hn
  clear ha hy h28 h29 hk hm hn
  go_enter Try.func7, Try.ntmps7
  go_wp2_with fail
  refine (known_any _).mono ?_
  rintro e u1 ⟨rfl, hb1⟩
  have HB1 := Lib.hid hb1
  clear hb1
  go_wp2_with fail
  refine (HA.out _).mono ?_
  rintro e _ ⟨rfl, rfl⟩
  go_wp2_with fail
  refine (HY.out _).mono ?_
  rintro e _ ⟨rfl, rfl⟩
  go_wp2_with fail
  refine (H28.out _).mono ?_
  rintro e u2 ⟨rfl, hb2⟩
  have HB2 := Lib.hid (HB1.out.trans (hb2.mono HB1.out.size))
  clear hb2 HB1
  go_wp2_with fail
  refine (H29.out _).mono ?_
  rintro e u3 ⟨rfl, hb3⟩
  have HB3 := Lib.hid (HB2.out.trans (hb3.mono HB2.out.size))
  clear hb3 HB2
  go_wp2_with fail
  go_loopw [13] (fun i wr => ∃ k : Nat, k ≤ 8 ∧ i = .int .i64 k ∧ Below w.heap.size w wr) (fun i _ => 8 - (intOf i).toNat)
  case atStart => exact ⟨0, by omega, rfl, HB3.out⟩
  case round =>
    obtain ⟨k, hk, rfl, hb⟩ := hrel
    have HB := Lib.hid hb
    clear hb HA HY H28 H29
    by_cases hlt : k < 8
    · obtain ⟨k1, k2⟩ := HK.out k hlt
      have K1 := Lib.hid k1
      have K2 := Lib.hid k2
      clear k1 k2
      by_cases h0 : Y < 0
      · go_wp2
        all_goals (have k1 := K1.out; have k2 := K2.out; rw [if_neg (by omega)] at k1 k2)
        all_goals first
          | (exfalso; contradiction)
          | (exfalso; simp_all; done)
          | skip
        all_goals go_roundw
        case rel => exact ⟨k + 1, by omega, by go_num, HB.out⟩
        case measure => simp [intOf]; omega
      · have h0' : 0 ≤ Y := by omega
        by_cases h1 : Y ≤ k
        · by_cases h2 : Y < 8 - k
          · go_wp2
            all_goals (have k1 := K1.out; have k2 := K2.out; rw [if_pos (by omega)] at k1 k2)
            all_goals first
              | (exfalso; contradiction)
              | (exfalso; simp_all; done)
              | skip
            all_goals go_roundw
            case rel => exact ⟨k + 1, by omega, by go_num, HB.out⟩
            case measure => simp [intOf]; omega
          · go_wp2
            all_goals (have k1 := K1.out; have k2 := K2.out; rw [if_pos (by omega)] at k1; rw [if_neg (by omega)] at k2)
            all_goals first
              | (exfalso; contradiction)
              | (exfalso; simp_all; done)
              | skip
            all_goals go_roundw
            case rel => exact ⟨k + 1, by omega, by go_num, HB.out⟩
            case measure => simp [intOf]; omega
        · by_cases h2 : Y < 8 - k
          · go_wp2
            all_goals (have k1 := K1.out; have k2 := K2.out; rw [if_neg (by omega)] at k1; rw [if_pos (by omega)] at k2)
            all_goals first
              | (exfalso; contradiction)
              | (exfalso; simp_all; done)
              | skip
            all_goals go_roundw
            case rel => exact ⟨k + 1, by omega, by go_num, HB.out⟩
            case measure => simp [intOf]; omega
          · go_wp2
            all_goals (have k1 := K1.out; have k2 := K2.out; rw [if_neg (by omega)] at k1 k2)
            all_goals first
              | (exfalso; contradiction)
              | (exfalso; simp_all; done)
              | skip
            all_goals go_roundw
            case rel => exact ⟨k + 1, by omega, by go_num, HB.out⟩
            case measure => simp [intOf]; omega
    · go_wp2
      all_goals (have hm := HM.out; have hn := HN.out)
      all_goals first
        | (exfalso; contradiction)
        | (exfalso; omega)
        | (go_ret; exact ⟨by simp [hn], HB.out⟩)

set_option maxRecDepth 20000 in
set_option maxHeartbeats 1600000 in
theorem shifts_core_3 (x y X Y m o : Int) (w : World)
    (hk : ∀ k : Nat, k < 16 → ShiftAt 16 X Y m o k) (hm : 0 ≤ m ∧ m < 65536) (hn : 0 ≤ o ∧ o < 65536)
    (ha : ∀ u, Calls Try.prog 18 #[.int .i64 3, .int .i64 x] u fun e w' => e = .returned (.int .i64 X) ∧ u = w')
    (hy : ∀ u, Calls Try.prog 18 #[.int .i64 5, .int .i64 y] u fun e w' => e = .returned (.int .i64 Y) ∧ u = w')
    (h28 : ∀ u, Calls Try.prog 19 #[.int .i64 28, .int .i64 3, .int .i64 5, .int .i64 X, .int .i64 Y] u fun r w' => r = .returned (.tuple #[.int .i64 m, .int .i64 0]) ∧ Below u.heap.size u w')
    (h29 : ∀ u, Calls Try.prog 19 #[.int .i64 29, .int .i64 3, .int .i64 5, .int .i64 X, .int .i64 Y] u fun r w' => r = .returned (.tuple #[.int .i64 o, .int .i64 0]) ∧ Below u.heap.size u w') :
    Calls Try.prog 7 #[.bool true, .int .i64 x, .int .i64 y] w fun e w' => e = .returned (.bool true) ∧ Below w.heap.size w w' := by
  have HA := Lib.hid ha
  have HY := Lib.hid hy
  have H28 := Lib.hid h28
  have H29 := Lib.hid h29
  have HK := Lib.hid hk
  have HM := Lib.hid hm
  have HN := Lib.hid hn
  clear ha hy h28 h29 hk hm hn
  go_enter Try.func7, Try.ntmps7
  go_wp2_with fail
  refine (known_any _).mono ?_
  rintro e u1 ⟨rfl, hb1⟩
  have HB1 := Lib.hid hb1
  clear hb1
  go_wp2_with fail
  refine (HA.out _).mono ?_
  rintro e _ ⟨rfl, rfl⟩
  go_wp2_with fail
  refine (HY.out _).mono ?_
  rintro e _ ⟨rfl, rfl⟩
  go_wp2_with fail
  refine (H28.out _).mono ?_
  rintro e u2 ⟨rfl, hb2⟩
  have HB2 := Lib.hid (HB1.out.trans (hb2.mono HB1.out.size))
  clear hb2 HB1
  go_wp2_with fail
  refine (H29.out _).mono ?_
  rintro e u3 ⟨rfl, hb3⟩
  have HB3 := Lib.hid (HB2.out.trans (hb3.mono HB2.out.size))
  clear hb3 HB2
  go_wp2_with fail
  go_loopw [13] (fun i wr => ∃ k : Nat, k ≤ 16 ∧ i = .int .i64 k ∧ Below w.heap.size w wr) (fun i _ => 16 - (intOf i).toNat)
  case atStart => exact ⟨0, by omega, rfl, HB3.out⟩
  case round =>
    obtain ⟨k, hk, rfl, hb⟩ := hrel
    have HB := Lib.hid hb
    clear hb HA HY H28 H29
    by_cases hlt : k < 16
    · obtain ⟨k1, k2⟩ := HK.out k hlt
      have K1 := Lib.hid k1
      have K2 := Lib.hid k2
      clear k1 k2
      by_cases h0 : Y < 0
      · go_wp2
        all_goals (have k1 := K1.out; have k2 := K2.out; rw [if_neg (by omega)] at k1 k2)
        all_goals first
          | (exfalso; contradiction)
          | (exfalso; simp_all; done)
          | skip
        all_goals go_roundw
        case rel => exact ⟨k + 1, by omega, by go_num, HB.out⟩
        case measure => simp [intOf]; omega
      · have h0' : 0 ≤ Y := by omega
        by_cases h1 : Y ≤ k
        · by_cases h2 : Y < 16 - k
          · go_wp2
            all_goals (have k1 := K1.out; have k2 := K2.out; rw [if_pos (by omega)] at k1 k2)
            all_goals first
              | (exfalso; contradiction)
              | (exfalso; simp_all; done)
              | skip
            all_goals go_roundw
            case rel => exact ⟨k + 1, by omega, by go_num, HB.out⟩
            case measure => simp [intOf]; omega
          · go_wp2
            all_goals (have k1 := K1.out; have k2 := K2.out; rw [if_pos (by omega)] at k1; rw [if_neg (by omega)] at k2)
            all_goals first
              | (exfalso; contradiction)
              | (exfalso; simp_all; done)
              | skip
            all_goals go_roundw
            case rel => exact ⟨k + 1, by omega, by go_num, HB.out⟩
            case measure => simp [intOf]; omega
        · by_cases h2 : Y < 16 - k
          · go_wp2
            all_goals (have k1 := K1.out; have k2 := K2.out; rw [if_neg (by omega)] at k1; rw [if_pos (by omega)] at k2)
            all_goals first
              | (exfalso; contradiction)
              | (exfalso; simp_all; done)
              | skip
            all_goals go_roundw
            case rel => exact ⟨k + 1, by omega, by go_num, HB.out⟩
            case measure => simp [intOf]; omega
          · go_wp2
            all_goals (have k1 := K1.out; have k2 := K2.out; rw [if_neg (by omega)] at k1 k2)
            all_goals first
              | (exfalso; contradiction)
              | (exfalso; simp_all; done)
              | skip
            all_goals go_roundw
            case rel => exact ⟨k + 1, by omega, by go_num, HB.out⟩
            case measure => simp [intOf]; omega
    · go_wp2
      all_goals (have hm := HM.out; have hn := HN.out)
      all_goals first
        | (exfalso; contradiction)
        | (exfalso; omega)
        | (go_ret; exact ⟨by simp [hn], HB.out⟩)

theorem shifts_two (K s : Int) (hK : K = 2 ∨ K = 3) (hs : s = 28 ∨ s = 29) (X Y v : Int) (h : wrapK K (rawK s X Y) = v) (u : World) :
    Calls Try.prog 19 #[.int .i64 s, .int .i64 K, .int .i64 5, .int .i64 X, .int .i64 Y] u fun r w' => r = .returned (.tuple #[.int .i64 v, .int .i64 0]) ∧ Below u.heap.size u w' := by
  have hf : fitsK s K 5 = true := by rcases hs with rfl | rfl <;> rcases hK with rfl | rfl <;> decide
  have hg : signK s = true := by rcases hs with rfl | rfl <;> decide
  have he : kindE s K 5 = 0 := by simp [kindE, hf, hg]
  have hk : kindM s K 5 = K := by simp [kindM, hf, hg]; omega
  refine two_to s K 5 X Y v 0 u ?_ ?_
  · rw [twoM, if_neg (by rw [he]; simp), if_neg (by omega), hk, h]
  · rw [twoE, if_neg (by rw [he]; simp), if_neg (by omega)]

theorem wrapK_zero (K : Int) : wrapK K 0 = 0 := by
  unfold wrapK wrap32
  split
  · rfl
  split
  · rfl
  split
  · rfl
  split
  · rfl
  split
  · rfl
  split <;> rfl

theorem up_is (K W : Nat) (h : K = 2 ∧ W = 8 ∨ K = 3 ∧ W = 16) (v s : Nat) (hs : s ≤ 63) : wrapK K (rawK 28 v s) = ((v * 2 ^ s % 2 ^ W : Nat) : Int) := by
  have e : rawK 28 v s = wrap64 ((v * 2 ^ s : Nat) : Int) := by
    simp [rawK]; omega
  rw [e]
  generalize v * 2 ^ s = t
  rcases h with ⟨rfl, rfl⟩ | ⟨rfl, rfl⟩ <;> simp [wrapK] <;> unfold wrap64 <;> omega
theorem down_is (K W : Nat) (h : K = 2 ∧ W = 8 ∨ K = 3 ∧ W = 16) (v s : Nat) (hv : v < 2 ^ W) (hs : s ≤ 63) : wrapK K (rawK 29 v s) = ((v / 2 ^ s : Nat) : Int) := by
  have hd : v / 2 ^ s ≤ v := Nat.div_le_self _ _
  have e : rawK 29 v s = ((v / 2 ^ s : Nat) : Int) := by
    simp [rawK]; omega
  rw [e]
  exact wrapK_nat K W (by omega) _ (by omega)
theorem shift_out (K X Y : Int) (h : Y < 0 ∨ 63 < Y) : wrapK K (rawK 28 X Y) = 0 ∧ wrapK K (rawK 29 X Y) = 0 := by
  have e1 : rawK 28 X Y = 0 := by simp [rawK]; omega
  have e2 : rawK 29 X Y = 0 := by simp [rawK]; omega
  rw [e1, e2, wrapK_zero]; exact ⟨rfl, rfl⟩

theorem arithShifts_walk (d : Bool) (x y : Int) (w : World) (w1 : I64 x) (w2 : I64 y) :
    Calls Try.prog 7 #[.bool d, .int .i64 x, .int .i64 y] w fun e w' => e = .returned (.bool true) ∧ Below w.heap.size w w' := by
  have HY := fun u => rwrap_any 5 y u
  generalize wrapK 5 y = Y at HY

  have case2 : Calls Try.prog 7 #[.bool false, .int .i64 x, .int .i64 y] w fun e w' => e = .returned (.bool true) ∧ Below w.heap.size w w' := by
    have hc : (2 : Nat) = 2 ∧ (8 : Nat) = 8 ∨ (2 : Nat) = 3 ∧ (8 : Nat) = 16 := by decide
    obtain ⟨v, hv, eX⟩ := wrapK_is 2 8 (by decide) x
    have HX : ∀ u, Calls Try.prog 18 #[.int .i64 2, .int .i64 x] u fun e w' => e = .returned (.int .i64 v) ∧ u = w' := by
      intro u; have := rwrap_any 2 x u; rw [show (2 : Int) = ((2 : Nat) : Int) from rfl, eX] at this; exact this
    by_cases h : Y < 0 ∨ 63 < Y
    · obtain ⟨o1, o2⟩ := shift_out 2 v Y h
      exact shifts_core_2 x y v Y 0 0 w (fun k hk => shift_none 8 (by decide) v Y k (by omega) h) (by decide) (by decide) HX HY
        (fun u => shifts_two 2 28 (by decide) (by decide) v Y _ o1 u) (fun u => shifts_two 2 29 (by decide) (by decide) v Y _ o2 u)
    · obtain ⟨s, rfl⟩ : ∃ s : Nat, Y = s := ⟨Y.toNat, by omega⟩
      have o1 := up_is 2 8 hc v s (by omega)
      have o2 := down_is 2 8 hc v s hv (by omega)
      have hd : v / 2 ^ s ≤ v := Nat.div_le_self _ _
      have hd2 : v / 2 ^ s < 256 := by omega
      have hd3 : ((v / 2 ^ s : Nat) : Int) < ((256 : Nat) : Int) := Int.ofNat_lt.2 hd2
      exact shifts_core_2 x y v s _ _ w (fun k hk => shift_some 8 (by decide) v s k hv hk) (by omega) ⟨Int.natCast_nonneg _, hd3⟩ HX HY
        (fun u => shifts_two 2 28 (by decide) (by decide) v s _ o1 u) (fun u => shifts_two 2 29 (by decide) (by decide) v s _ o2 u)

  have case3 : Calls Try.prog 7 #[.bool true, .int .i64 x, .int .i64 y] w fun e w' => e = .returned (.bool true) ∧ Below w.heap.size w w' := by
    have hc : (3 : Nat) = 2 ∧ (16 : Nat) = 8 ∨ (3 : Nat) = 3 ∧ (16 : Nat) = 16 := by decide
    obtain ⟨v, hv, eX⟩ := wrapK_is 3 16 (by decide) x
    have HX : ∀ u, Calls Try.prog 18 #[.int .i64 3, .int .i64 x] u fun e w' => e = .returned (.int .i64 v) ∧ u = w' := by
      intro u; have := rwrap_any 3 x u; rw [show (3 : Int) = ((3 : Nat) : Int) from rfl, eX] at this; exact this
    by_cases h : Y < 0 ∨ 63 < Y
    · obtain ⟨o1, o2⟩ := shift_out 3 v Y h
      exact shifts_core_3 x y v Y 0 0 w (fun k hk => shift_none 16 (by decide) v Y k (by omega) h) (by decide) (by decide) HX HY
        (fun u => shifts_two 3 28 (by decide) (by decide) v Y _ o1 u) (fun u => shifts_two 3 29 (by decide) (by decide) v Y _ o2 u)
    · obtain ⟨s, rfl⟩ : ∃ s : Nat, Y = s := ⟨Y.toNat, by omega⟩
      have o1 := up_is 3 16 hc v s (by omega)
      have o2 := down_is 3 16 hc v s hv (by omega)
      have hd : v / 2 ^ s ≤ v := Nat.div_le_self _ _
      have hd2 : v / 2 ^ s < 65536 := by omega
      have hd3 : ((v / 2 ^ s : Nat) : Int) < ((65536 : Nat) : Int) := Int.ofNat_lt.2 hd2
      exact shifts_core_3 x y v s _ _ w (fun k hk => shift_some 16 (by decide) v s k hv hk) (by omega) ⟨Int.natCast_nonneg _, hd3⟩ HX HY
        (fun u => shifts_two 3 28 (by decide) (by decide) v s _ o1 u) (fun u => shifts_two 3 29 (by decide) (by decide) v s _ o2 u)

  cases d
  · exact case2
  · exact case3
end Go.Proofs.Ytelfgfoonfajiaa
