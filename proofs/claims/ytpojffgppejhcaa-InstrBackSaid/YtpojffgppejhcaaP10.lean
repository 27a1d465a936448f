/- Chapter 10: two rows that are the same. -/
import Derived.Test.YtpojffgppejhcaaO10
import Derived.Deep.RegionHeld3
namespace Go.Proofs.Ytpojffgppejhcaa
open Go.RowKit
set_option linter.unusedVariables false
set_option linter.unusedSimpArgs false

theorem bcell {w w1 : World} {B b : Nat} (hb : Below B w w1) (h : b < B) (o : Nat) : w1.cell? ⟨b, o, none⟩ = w.cell? ⟨b, o, none⟩ := hb.cell (p := ⟨b, o, none⟩) h

theorem rowCells_at (L : List (Int × Int × Int × Int × Int)) (k : Nat) (h : k < L.length) (j : Nat) (hj : j < 5) : (rowCells L)[k * 5 + j]? = (opCells L[k])[j]? := by
  induction L generalizing k with
  | nil => simp at h
  | cons o L ih =>
    have e : rowCells (o :: L) = opCells o ++ rowCells L := by simp [rowCells]
    have l5 : (opCells o).length = 5 := rfl
    rw [e]
    cases k with
    | zero => rw [List.getElem?_append_left (by omega)]; simp
    | succ k =>
      rw [List.getElem?_append_right (by omega), l5, show (k + 1) * 5 + j - 5 = k * 5 + j by omega, ih k (by simpa using h)]
      simp

/-- The k-th instruction of a row, in its cells. -/
theorem RowAt.five {B : Option Addr} {lo : Nat} {L : List (Int × Int × Int × Int × Int)} {u : World} (h : RowAt B lo L u) (k : Nat) (hk : k < L.length) :
    ∃ b, B = some ⟨b, 0, none⟩ ∧ lo ≤ b ∧ b < u.heap.size ∧ u.cell? ⟨b, k * 5, none⟩ = some (.int .i64 L[k].1) ∧ u.cell? ⟨b, k * 5 + 1, none⟩ = some (.int .i64 L[k].2.1) ∧ u.cell? ⟨b, k * 5 + 2, none⟩ = some (.int .i64 L[k].2.2.1) ∧
      u.cell? ⟨b, k * 5 + 3, none⟩ = some (.int .i64 L[k].2.2.2.1) ∧ u.cell? ⟨b, k * 5 + 4, none⟩ = some (.int .i64 L[k].2.2.2.2) := by
  obtain ⟨b, h1, h2, h3, h4⟩ := h (by omega)
  exact ⟨b, h1, h2, h3, h4 _ _ (rowCells_at L k hk 0 (by omega)), h4 _ _ (rowCells_at L k hk 1 (by omega)), h4 _ _ (rowCells_at L k hk 2 (by omega)), h4 _ _ (rowCells_at L k hk 3 (by omega)), h4 _ _ (rowCells_at L k hk 4 (by omega))⟩

set_option maxHeartbeats 8000000 in
theorem same_any (A B : Option Addr) (ca cb lo lo' : Nat) (L : List (Int × Int × Int × Int × Int)) (w : World) (ra : RowAt A lo L w) (rb : RowAt B lo' L w) (hl : L.length ≤ 10000) :
    Calls Try.prog 15 #[.slice A L.length ca, .slice B L.length cb] w fun e w' => e = .returned (.bool true) ∧ Below w.heap.size w w' := by
  have RA := Lib.hid ra
  have RB := Lib.hid rb
  have hl' : (L.length : Int) ≤ 10000 := by omega
  clear ra rb
  generalize hn : L.length = n at *
  have HN := Lib.hid hn
  clear hn
  go_enter Try.func15, Try.ntmps15
  go_wp2_with fail
  go_loopw [5] (fun i wr => ∃ k : Nat, k ≤ n ∧ i = .int .i64 k ∧ Below w.heap.size w wr) (fun i _ => n - (intOf i).toNat)
  case atStart => exact ⟨0, by omega, rfl, Below.refl _ _⟩
  case round =>
    obtain ⟨k, hk, rfl, hb⟩ := hrel
    by_cases hlt : k < n
    · have hkL : k < L.length := by rw [HN.out]; exact hlt
      obtain ⟨ba, rfl, _, ga, p0, p1, p2, p3, p4⟩ := RA.out.five k hkL
      obtain ⟨bb, rfl, _, gb, s0, s1, s2, s3, s4⟩ := RB.out.five k hkL
      rw [← bcell hb ga] at p0 p1 p2 p3 p4
      rw [← bcell hb gb] at s0 s1 s2 s3 s4
      have hlt' : (k : Int) < n := by omega
      have ga' : ba < wr.heap.size := by have := hb.size; omega
      have gb' : bb < wr.heap.size := by have := hb.size; omega
      have HB := Lib.hid hb
      have hsz := hb.size
      clear hb
      obtain ⟨a0, h0⟩ : ∃ a0, L[k].1 = a0 := ⟨_, rfl⟩
      obtain ⟨a1, h1⟩ : ∃ a1, L[k].2.1 = a1 := ⟨_, rfl⟩
      obtain ⟨a2, h2⟩ : ∃ a2, L[k].2.2.1 = a2 := ⟨_, rfl⟩
      obtain ⟨a3, h3⟩ : ∃ a3, L[k].2.2.2.1 = a3 := ⟨_, rfl⟩
      obtain ⟨a4, h4⟩ : ∃ a4, L[k].2.2.2.2 = a4 := ⟨_, rfl⟩
      rw [h0] at p0 s0
      rw [h1] at p1 s1
      rw [h2] at p2 s2
      rw [h3] at p3 s3
      rw [h4] at p4 s4
      clear h0 h1 h2 h3 h4 hkL ga gb
      go_wp2
      go_region_held3 (fun w' => w'.cell? ⟨ba, k * 5, none⟩ = some (.int .i64 a0) ∧ w'.cell? ⟨ba, k * 5 + 1, none⟩ = some (.int .i64 a1) ∧ w'.cell? ⟨ba, k * 5 + 2, none⟩ = some (.int .i64 a2) ∧ w'.cell? ⟨ba, k * 5 + 3, none⟩ = some (.int .i64 a3) ∧ w'.cell? ⟨ba, k * 5 + 4, none⟩ = some (.int .i64 a4) ∧
          w'.cell? ⟨bb, k * 5, none⟩ = some (.int .i64 a0) ∧ w'.cell? ⟨bb, k * 5 + 1, none⟩ = some (.int .i64 a1) ∧ w'.cell? ⟨bb, k * 5 + 2, none⟩ = some (.int .i64 a2) ∧ w'.cell? ⟨bb, k * 5 + 3, none⟩ = some (.int .i64 a3) ∧ w'.cell? ⟨bb, k * 5 + 4, none⟩ = some (.int .i64 a4)) (go_keep)
        (first | (go_at_call 12; refine (of_any a0 a1 a2 a3 a4 _).mono ?_; rintro e u4 ⟨rfl, hb4⟩; have q1 := bcell hb4 (b := ba) (by simp; omega); have q2 := bcell hb4 (b := bb) (by simp; omega); have HB4 := Lib.hid (HB.out.drew.trans (hb4.mono (by simp; omega)))))
      go_wp2
      go_roundw
      case rel => exact ⟨k + 1, by omega, by go_num, HB4.out⟩
      case measure => simp [intOf]; omega
    · have hge : ¬ ((k : Int) < n) := by omega
      have HB := Lib.hid hb
      clear hb
      go_wp2
      go_ret
      exact ⟨rfl, HB.out⟩
end Go.Proofs.Ytpojffgppejhcaa
