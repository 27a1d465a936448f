/- slices.Index and slices.Contains at a row of ints of the call's own. -/
import Derived.Test.YtngobbbinacomaaDoorRows
import Derived.WalkKit
import Derived.WalkSpells
import Derived.WalkLawsBesides
import Derived.Lib.Hide
namespace Go.Proofs.YtngobbbinacomaaDoor.c11
open Go.Proofs.YtngobbbinacomaaDoor
open Go.RowKit
set_option linter.unusedVariables false

/-- Where a number stands in a list: from nought on, if it is there. -/
def IdxPost (z : List Int) (v : Int) (w : World) (e : Ending) (w' : World) : Prop := ∃ r : Int, decide (0 ≤ r) = decide (v ∈ z) ∧ e = .returned (.int .i64 r) ∧ w = w'

theorem idx_at (z : List Int) (v : Int) (k : Nat) (hk : k < z.length) (he : z[k] = v) : decide ((0 : Int) ≤ (k : Int)) = decide (v ∈ z) := by
  have hm : v ∈ z := he ▸ List.getElem_mem hk
  simp [hm]

theorem idx_no (z : List Int) (v : Int) (hn : ∀ j (h : j < z.length), z[j] ≠ v) : decide ((0 : Int) ≤ -1) = decide (v ∈ z) := by
  have : ¬ v ∈ z := fun hm => by
    obtain ⟨i, hi, he⟩ := List.getElem_of_mem hm
    exact hn i hi he
  simp [this]

theorem bret {a b : Bool} (h : a = b) : Ending.returned (.bool a) = .returned (.bool b) := by rw [h]
theorem xret {k : IntKind} {a b : Int} (h : a = b) : Ending.returned (.int k a) = .returned (.int k b) := by rw [h]

set_option maxHeartbeats 800000 in
theorem index_any (g cap : Nat) (z : List Int) (v : Int) (w : World) (hz : z.length ≤ 1000) (hc : ∀ i (h : i < z.length), w.cell? ⟨g, i, none⟩ = some (.int .i64 z[i])) :
    Calls Tryd.prog 127 #[.slice (some ⟨g, 0, none⟩) z.length cap, .int .i64 v] w (IdxPost z v w) := by
  have HC := Lib.hid hc
  clear hc
  obtain ⟨n, hn⟩ : ∃ n, z.length = n := ⟨_, rfl⟩
  have HN := Lib.hid hn
  rw [hn] at hz ⊢
  clear hn
  go_enter Tryd.func127, Tryd.ntmps127
  go_wp2
  go_loop [8] (fun i => ∃ k : Nat, k ≤ n ∧ i = .int .i64 k ∧ ∀ j (h : j < z.length), j < k → z[j] ≠ v) (fun i => n - (intOf i).toNat)
  case atStart => exact ⟨0, by omega, rfl, fun j _ h => absurd h (by omega)⟩
  case round =>
    obtain ⟨k, hk, rfl, hno⟩ := hrel
    have HNO := Lib.hid hno
    clear hno
    by_cases hlt : k < n
    · have hlz : k < z.length := by rw [HN.out]; exact hlt
      have hcell := HC.out k hlz
      obtain ⟨x, hx⟩ : ∃ x, z[k] = x := ⟨_, rfl⟩
      rw [hx] at hcell
      have HX := Lib.hid hx
      clear hx
      by_cases he : v = x
      · subst he
        go_wp2
        go_ret
        exact ⟨_, idx_at z _ k hlz HX.out, rfl, rfl⟩
      · have he' : (v == x) = false := by simpa using he
        go_wp2
        go_round
        case rel => exact ⟨k + 1, by omega, by go_num, fun j h hj => by
          by_cases hjk : j < k
          · exact HNO.out j h hjk
          · obtain rfl : j = k := by omega
            rw [HX.out]; exact fun h => he h.symm⟩
        case measure => simp [intOf]; omega
    · go_wp2
      go_ret
      exact ⟨_, idx_no z v fun j h => HNO.out j h (by have := HN.out; omega), rfl, rfl⟩

theorem contains_any (g cap : Nat) (z : List Int) (v : Int) (w : World) (hz : z.length ≤ 1000) (hc : ∀ i (h : i < z.length), w.cell? ⟨g, i, none⟩ = some (.int .i64 z[i])) :
    Calls Tryd.prog 126 #[.slice (some ⟨g, 0, none⟩) z.length cap, .int .i64 v] w fun e w' => e = .returned (.bool (decide (v ∈ z))) ∧ w = w' := by
  have HI := Lib.hid (index_any g cap z v w hz hc)
  clear hc
  go_enter Tryd.func126, Tryd.ntmps126
  go_wp2_with fail
  refine HI.out.mono ?_
  rintro e _ ⟨r, hr, rfl, rfl⟩
  have HR := Lib.hid hr
  clear hr
  go_wp2
  go_ret
  exact ⟨bret HR.out, rfl⟩
end Go.Proofs.YtngobbbinacomaaDoor.c11
