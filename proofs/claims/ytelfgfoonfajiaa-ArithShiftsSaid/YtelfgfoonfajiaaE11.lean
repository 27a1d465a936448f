/- Chapter 11: the walks of ArithConvs, ArithOnes, ArithKinds. -/
import Derived.Test.YtelfgfoonfajiaaD11
import Derived.Test.YtelfgfoonfajiaaFrame
namespace Go.Proofs.Ytelfgfoonfajiaa
open Go.RowKit
set_option linter.unusedVariables false

/-! ### the plain laws -/
theorem wrapK_idem (k x : Int) : wrapK k (wrapK k x) = wrapK k x := by
  unfold wrapK
  by_cases h1 : k = 1
  · simp only [h1, if_true]; by_cases h : x = 0 <;> simp [h]
  by_cases h2 : k = 2
  · subst h2; simp
  by_cases h3 : k = 3
  · subst h3; simp
  by_cases h4 : k = 4
  · subst h4; simp
  by_cases h5 : k = 5
  · subst h5; simp; unfold wrap32; omega
  by_cases h6 : k = 6
  · subst h6; simp
  simp [h1, h2, h3, h4, h5, h6]

theorem wrapK_6 (x : Int) : wrapK 6 x = x := by simp [wrapK]

theorem wrapK_bd (k x : Int) (h1 : 1 ≤ k) (h5 : k ≤ 5) : -2147483648 ≤ wrapK k x ∧ wrapK k x ≤ 2147483647 := by
  rcases (show k = 1 ∨ k = 2 ∨ k = 3 ∨ k = 4 ∨ k = 5 by omega) with rfl | rfl | rfl | rfl | rfl
  · simp only [wrapK, if_true]; split <;> omega
  · simp [wrapK]; omega
  · simp [wrapK]; omega
  · simp [wrapK]; omega
  · simp [wrapK]; unfold wrap32; omega

theorem wrapK_5 (k x : Int) (h1 : 1 ≤ k) (h5 : k ≤ 5) : wrapK 5 (wrapK k x) = wrapK k x := by
  have := wrapK_bd k x h1 h5
  generalize wrapK k x = y at *
  simp [wrapK]; unfold wrap32; omega

/-- A number's bits turned are its opposite, less one. -/
theorem bits_not (x : Int) (h : I64 x) : bits BinOp.xor IntKind.i64 (-1) x = -x - 1 := by
  obtain ⟨h1, h2⟩ := h
  show IntKind.i64.wrap ((BitVec.ofInt 64 (-1) ^^^ BitVec.ofInt 64 x).toNat : Int) = _
  have e : BitVec.ofInt 64 (-1) ^^^ BitVec.ofInt 64 x = ~~~ BitVec.ofInt 64 x := by
    have : BitVec.ofInt 64 (-1) = BitVec.allOnes 64 := by decide
    rw [this, BitVec.allOnes_xor]
  rw [e, BitVec.toNat_not, BitVec.toNat_ofInt, IntKind.wrap_i64]
  omega

theorem notK_lo (x : Int) (k : Int) (hk : k = 2 ∨ k = 3) (h : I64 x) : notK k x = wrapK k (-x - 1) := by
  have h1 : k ≠ 1 := by omega
  rw [notK, if_neg h1, if_pos hk, bits_not x h]

theorem notK_twice (a x : Int) (h1 : 1 ≤ a) (h3 : a ≤ 3) : notK a (notK a (wrapK a x)) = wrapK a x := by
  rcases (show a = 1 ∨ a = 2 ∨ a = 3 by omega) with rfl | rfl | rfl
  · simp only [wrapK, notK, if_true]
    split
    · rw [IntWalk.wrap64_in (1 - 0) ⟨by omega, by omega⟩, IntWalk.wrap64_in _ ⟨by omega, by omega⟩]; omega
    · rw [IntWalk.wrap64_in (1 - 1) ⟨by omega, by omega⟩, IntWalk.wrap64_in _ ⟨by omega, by omega⟩]; omega
  · have hw : wrapK 2 x = x % 256 := by simp [wrapK]
    rw [hw, notK_lo (x % 256) 2 (.inl rfl) ⟨by omega, by omega⟩]
    have hw2 : wrapK 2 (-(x % 256) - 1) = (-(x % 256) - 1) % 256 := by simp [wrapK]
    rw [hw2, notK_lo ((-(x % 256) - 1) % 256) 2 (.inl rfl) ⟨by omega, by omega⟩]
    simp [wrapK]; omega
  · have hw : wrapK 3 x = x % 65536 := by simp [wrapK]
    rw [hw, notK_lo (x % 65536) 3 (.inr rfl) ⟨by omega, by omega⟩]
    have hw2 : wrapK 3 (-(x % 65536) - 1) = (-(x % 65536) - 1) % 65536 := by simp [wrapK]
    rw [hw2, notK_lo ((-(x % 65536) - 1) % 65536) 3 (.inr rfl) ⟨by omega, by omega⟩]
    simp [wrapK]; omega

/-! ### the walks -/
set_option maxHeartbeats 2000000 in
theorem arithConvs_walk (k x : Int) (w : World) (w0 : I64 k) (w1 : I64 x) :
    Calls Try.prog 10 #[.int .i64 k, .int .i64 x] w fun e w' => e = .returned (.bool true) ∧ Below w.heap.size w w' := by
  have NW := fun u => within_any k 6 (by decide) (by decide) u
  have hk1 : 0 ≤ k % 6 := by omega
  have hk2 : k % 6 < 6 := by omega
  generalize k % 6 = j at *
  have F2 := wrapK_idem (1 + j) x
  have F5 : 1 + j ≤ 5 → wrapK 5 (wrapK (1 + j) x) = wrapK (1 + j) x := wrapK_5 (1 + j) x (by omega)
  have WR := fun u => rwrap_any (1 + j) x u
  clear w0 w1
  generalize wrapK (1 + j) x = X at *
  have F6 := wrapK_6 X
  have F1 : (X = 0 ∧ wrapK 1 X = 0) ∨ ((X != 0) = true ∧ wrapK 1 X = 1) := by
    by_cases h : X = 0
    · exact .inl ⟨h, by simp [wrapK, h]⟩
    · exact .inr ⟨by simpa using h, by simp [wrapK, h]⟩
  have HN := Lib.hid NW
  have HW := Lib.hid WR
  have H5 := Lib.hid F5
  have H1 := Lib.hid F1
  clear NW WR F5 F1
  by_cases hj : j = 5
  · subst hj
    go_enter Try.func10, Try.ntmps10
    go_wp2_with (first
      | (go_at_call 13; (with_reducible refine (known_any _).mono ?_); rintro e u1 ⟨rfl, hb⟩; have HB := Lib.hid hb; clear hb)
      | (go_at_call 16; (with_reducible refine (HN.out _).mono ?_); rintro e _ ⟨rfl, rfl⟩)
      | (go_at_call 18; refine (HW.out _).mono ?_; rintro e _ ⟨rfl, rfl⟩)
      | (go_at_call 21; (with_reducible refine (pconv_any _ _ _ _).mono ?_); rintro e _ ⟨rfl, rfl⟩))
    go_ret
    exact ⟨rfl, HB.out⟩
  · have F5 := H5.out (by omega)
    have hj6 : (1 + j == 6) = false := by simp; omega
    rcases H1.out with ⟨h0, h1⟩ | ⟨h0, h1⟩
    · subst h0
      go_enter Try.func10, Try.ntmps10
      go_wp2_with (first
        | (go_at_call 13; (with_reducible refine (known_any _).mono ?_); rintro e u1 ⟨rfl, hb⟩; have HB := Lib.hid hb; clear hb)
        | (go_at_call 16; (with_reducible refine (HN.out _).mono ?_); rintro e _ ⟨rfl, rfl⟩)
        | (go_at_call 18; (with_reducible refine (HW.out _).mono ?_); rintro e _ ⟨rfl, rfl⟩)
        | (go_at_call 21; (with_reducible refine (pconv_any _ _ _ _).mono ?_); rintro e _ ⟨rfl, rfl⟩))
      go_ret
      exact ⟨rfl, HB.out⟩
    · go_enter Try.func10, Try.ntmps10
      go_wp2_with (first
        | (go_at_call 13; (with_reducible refine (known_any _).mono ?_); rintro e u1 ⟨rfl, hb⟩; have HB := Lib.hid hb; clear hb)
        | (go_at_call 16; (with_reducible refine (HN.out _).mono ?_); rintro e _ ⟨rfl, rfl⟩)
        | (go_at_call 18; (with_reducible refine (HW.out _).mono ?_); rintro e _ ⟨rfl, rfl⟩)
        | (go_at_call 21; (with_reducible refine (pconv_any _ _ _ _).mono ?_); rintro e _ ⟨rfl, rfl⟩))
      go_ret
      exact ⟨rfl, HB.out⟩
end Go.Proofs.Ytelfgfoonfajiaa
