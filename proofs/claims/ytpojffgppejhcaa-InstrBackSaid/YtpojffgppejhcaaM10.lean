/- Chapter 10: a number's bytes, from the low end and from the high one. Plain. -/
import Derived.Test.YtpojffgppejhcaaB10
namespace Go.Proofs.Ytpojffgppejhcaa
open Go.RowKit
set_option linter.unusedVariables false
set_option linter.unusedSimpArgs false

theorem nat_or64 (a b : Nat) (ha : a < 2 ^ 64) (hb : b < 2 ^ 64) : bits BinOp.or IntKind.u64 (a : Int) (b : Int) = ((a ||| b : Nat) : Int) := by
  show IntKind.u64.wrap ((BitVec.ofInt 64 a ||| BitVec.ofInt 64 b).toNat : Int) = _
  have h : a ||| b < 2 ^ 64 := Nat.or_lt_two_pow ha hb
  rw [BitVec.ofInt_natCast, BitVec.ofInt_natCast, BitVec.toNat_or, BitVec.toNat_ofNat, BitVec.toNat_ofNat, Nat.mod_eq_of_lt (by omega), Nat.mod_eq_of_lt (by omega)]
  generalize a ||| b = c at *
  exact wrap_u64 (c : Int) (by omega) (by omega)

/-- What n bytes from q on make, the low one first. -/
def valN (y : Nat → Nat) (q : Nat) : Nat → Nat
  | 0 => 0
  | n + 1 => valN y q n + y (q + n) * 2 ^ (8 * n)

theorem valN_lt (y : Nat → Nat) (q : Nat) : ∀ n, (∀ i, i < n → y (q + i) < 256) → valN y q n < 2 ^ (8 * n) := by
  intro n
  induction n with
  | zero => intro _; simp [valN]
  | succ n ih =>
    intro h
    have h1 := ih fun i hi => h i (by omega)
    have h2 := h n (by omega)
    have h3 : y (q + n) * 2 ^ (8 * n) ≤ 255 * 2 ^ (8 * n) := Nat.mul_le_mul_right _ (by omega)
    have h4 : 2 ^ (8 * (n + 1)) = 256 * 2 ^ (8 * n) := by rw [show 8 * (n + 1) = 8 + 8 * n by omega, Nat.pow_add]
    simp only [valN]
    omega

theorem numK_val (z : Nat → Int) (y : Nat → Nat) (q : Nat) : ∀ k, k ≤ 8 → (∀ i, i < k → z (q + i) = (y (q + i) : Int) ∧ y (q + i) < 256) → numK z q k = (valN y q k : Int) := by
  intro k
  induction k with
  | zero => intro _ _; rfl
  | succ k ih =>
    intro hk h
    have h1 := ih (by omega) fun i hi => h i (by omega)
    obtain ⟨h2, h3⟩ := h k (by omega)
    have hlt := valN_lt y q k fun i hi => (h i (by omega)).2
    have hp : (2 : Nat) ^ (8 * k) ≤ 2 ^ 56 := Nat.pow_le_pow_right (by omega) (by omega)
    have hm : y (q + k) * 2 ^ (8 * k) ≤ 255 * 2 ^ (8 * k) := Nat.mul_le_mul_right _ (by omega)
    have hw : IntKind.u64.wrap (z (q + k) * 2 ^ (8 * k)) = ((y (q + k) * 2 ^ (8 * k) : Nat) : Int) := by
      rw [h2]
      have : ((y (q + k) : Int) * 2 ^ (8 * k)) = ((y (q + k) * 2 ^ (8 * k) : Nat) : Int) := by simp
      rw [this]
      exact wrap_u64 _ (by omega) (by omega)
    simp only [numK, valN]
    rw [h1, hw, nat_or64 _ _ (by omega) (by omega), Nat.or_comm, ← Nat.shiftLeft_eq, ← Nat.shiftLeft_add_eq_or_of_lt hlt, Nat.shiftLeft_eq, Nat.add_comm]

/-- The same, from the high end: after j bytes of eight. -/
def refK (z : Nat → Int) (q : Nat) : Nat → Int
  | 0 => 0
  | j + 1 => bits .or .u64 (IntKind.u64.wrap (refK z q j * 256)) (z (q + (7 - j)))

def topN (y : Nat → Nat) (q : Nat) : Nat → Nat
  | 0 => 0
  | j + 1 => topN y q j * 256 + y (q + (7 - j))

theorem topN_lt (y : Nat → Nat) (q : Nat) (h : ∀ i, i < 8 → y (q + i) < 256) : ∀ j, topN y q j < 2 ^ (8 * j) := by
  intro j
  induction j with
  | zero => simp [topN]
  | succ j ih =>
    have h2 := h (7 - j) (by omega)
    have h4 : 2 ^ (8 * (j + 1)) = 256 * 2 ^ (8 * j) := by rw [show 8 * (j + 1) = 8 + 8 * j by omega, Nat.pow_add]
    simp only [topN]
    omega

theorem refK_val (z : Nat → Int) (y : Nat → Nat) (q : Nat) (h : ∀ i, i < 8 → z (q + i) = (y (q + i) : Int) ∧ y (q + i) < 256) : ∀ j, j ≤ 8 → refK z q j = (topN y q j : Int) := by
  intro j
  induction j with
  | zero => intro _; rfl
  | succ j ih =>
    intro hj
    have h1 := ih (by omega)
    obtain ⟨h2, h3⟩ := h (7 - j) (by omega)
    have hlt := topN_lt y q (fun i hi => (h i hi).2) j
    have hp : (2 : Nat) ^ (8 * j) ≤ 2 ^ 56 := Nat.pow_le_pow_right (by omega) (by omega)
    have hw : IntKind.u64.wrap ((topN y q j : Int) * 256) = ((topN y q j * 256 : Nat) : Int) := by
      rw [wrap_u64 _ (by omega) (by omega)]
      simp
    simp only [refK, topN]
    rw [h1, hw, h2, nat_or64 _ _ (by omega) (by omega)]
    have := Nat.shiftLeft_add_eq_or_of_lt (i := 8) h3 (topN y q j)
    rw [Nat.shiftLeft_eq] at this
    rw [← this]

/-- Both ends make the same number. -/
theorem refK_is (z : Nat → Int) (q : Nat) (h : ∀ i, i < 8 → 0 ≤ z (q + i) ∧ z (q + i) < 256) : refK z q 8 = numK z q 8 := by
  have hy : ∀ i, i < 8 → z (q + i) = (((fun i => (z i).toNat) (q + i) : Nat) : Int) ∧ (fun i => (z i).toNat) (q + i) < 256 := fun i hi => by
    have := h i hi
    simp only
    omega
  rw [refK_val z (fun i => (z i).toNat) q hy 8 (by omega), numK_val z (fun i => (z i).toNat) q 8 (by omega) hy]
  simp only [topN, valN]
  congr 1
  simp
  omega
end Go.Proofs.Ytpojffgppejhcaa
