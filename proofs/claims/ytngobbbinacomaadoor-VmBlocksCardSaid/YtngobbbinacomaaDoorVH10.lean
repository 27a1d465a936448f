/- Chapter 10: Read, whole. -/
import Derived.Test.YtngobbbinacomaaDoorVD10
import Derived.Test.YtngobbbinacomaaDoorVE10
import Derived.Test.YtngobbbinacomaaDoorVF10
import Derived.Test.YtngobbbinacomaaDoorVG10
namespace Go.Proofs.YtngobbbinacomaaDoor.c10
open Go.Proofs.YtngobbbinacomaaDoor
open Go.RowKit
set_option linter.unusedVariables false
set_option linter.unusedSimpArgs false

theorem bearsN_ways (s : Int) : (bearsN s = 0 ∧ s ≠ 1) ∨ (bearsN s = 1 ∧ s ≠ 1) ∨ (bearsN s = 9 ∧ s = 1) := by
  unfold bearsN
  split
  · omega
  · split <;> omega

/-- What Read tells: an instruction's five numbers, and how it ended. -/
def rd (z : Nat → Int) (len : Nat) (p : Int) : (Int × Int × Int × Int × Int) × Int :=
  if p < 0 ∨ (len : Int) ≤ p then ((0, 0, 0, 0, 0), 12)
  else if 29 < z p.toNat then ((0, 0, 0, 0, 0), 10)
  else if (len : Int) - (p + 1) < bearsN (z p.toNat) then ((0, 0, 0, 0, 0), 8)
  else ((p, p + 1 + bearsN (z p.toNat), z p.toNat, if 0 < bearsN (z p.toNat) then z (p.toNat + 1) else 0, if z p.toNat = 1 then wrap64 (numK z (p.toNat + 2) 8) else 0), 0)

/-- As a value. -/
def rdV (r : (Int × Int × Int × Int × Int) × Int) : Value := opT r.1.1 r.1.2.1 r.1.2.2.1 r.1.2.2.2.1 r.1.2.2.2.2 r.2

theorem read_any (A : Option Addr) (len cap : Nat) (z : Nat → Int) (p : Int) (w : World) (c : Came w A len cap fun j => .int .u8 (z j)) (hl : (len : Int) ≤ 4611686018427387904) (hz : ∀ i, i < len → 0 ≤ z i ∧ z i < 256) :
    Calls Tryd.prog 74 #[.slice A len cap, .int .i64 p] w fun e w' => e = .returned (rdV (rd z len p)) ∧ Below w.heap.size w w' := by
  by_cases h0 : p < 0
  · have : rd z len p = ((0, 0, 0, 0, 0), 12) := by simp [rd, h0]
    rw [this]
    exact read_out_lo A len cap p w h0 hl
  by_cases h1 : (len : Int) ≤ p
  · have : rd z len p = ((0, 0, 0, 0, 0), 12) := by simp [rd, h1]
    rw [this]
    exact read_out_hi A len cap p w (by omega) h1 hl
  obtain ⟨q, rfl⟩ : ∃ q : Nat, p = q := ⟨p.toNat, by omega⟩
  have hq : q < len := by omega
  obtain ⟨b, off, rfl, hb, kv⟩ := c.at_ (by omega)
  have ht : ((q : Int)).toNat = q := by omega
  have hn : ¬ ((q : Int) < 0 ∨ (len : Int) ≤ q) := by omega
  by_cases h2 : 29 < z q
  · have : rd z len q = ((0, 0, 0, 0, 0), 10) := by simp only [rd, ht, if_neg hn, if_pos h2]
    rw [this]
    exact read_bad b off len cap q z w hb hq hl hz kv h2
  have h2' : z q ≤ 29 := by omega
  have hw := bearsN_ways (z q)
  by_cases h3 : (len : Int) - (q + 1) < bearsN (z q)
  · have : rd z len q = ((0, 0, 0, 0, 0), 8) := by simp only [rd, ht, if_neg hn, if_neg h2, if_pos h3]
    rw [this]
    exact read_cut b off len cap q z w hb hq hl hz kv h2' h3 (by omega)
  have hr : rd z len q = (((q : Int), q + 1 + bearsN (z q), z q, if 0 < bearsN (z q) then z (q + 1) else 0, if z q = 1 then wrap64 (numK z (q + 2) 8) else 0), 0) := by
    simp only [rd, ht, if_neg hn, if_neg h2, if_neg h3]
  rw [hr]
  rcases hw with ⟨h4, h5⟩ | ⟨h4, h5⟩ | ⟨h4, h5⟩
  · rw [h4, if_neg h5, if_neg (by omega)]
    have := read_bare b off len cap q z w hb hq hl hz kv h2' h4 (by simpa using h5)
    simpa [rdV] using this
  · rw [h4, if_neg h5, if_pos (by omega)]
    have := read_one b off len cap q z w hb hq hl hz kv h2' (by omega) h4 (by simpa using h5)
    rw [show (q : Int) + 2 = q + 1 + 1 by omega] at this
    simpa [rdV] using this
  · rw [h4, if_pos h5, if_pos (by omega), h5]
    have := read_push b off len cap q z w hb hq hl hz kv h5 (by omega)
    rw [show (q : Int) + 10 = q + 1 + 9 by omega] at this
    simpa [rdV] using this
end Go.Proofs.YtngobbbinacomaaDoor.c10
