/- Chapter 14: two rows that are the same. -/
import Derived.Test.YtngobbbinacomaaDoorRN14
import Derived.Deep.QuietTactic
import Derived.BigQuiet
namespace Go.Proofs.YtngobbbinacomaaDoor
open Go.RowKit Go.Proofs.YtngobbbinacomaaDoor.c11 Go.Proofs.YtngobbbinacomaaDoor.c10 Go.Proofs.YtngobbbinacomaaDoor.c13
set_option linter.unusedVariables false
set_option linter.unusedSimpArgs false
attribute [local go_sem ↓] Go.wp_at_zero Go.wp_at_succ

theorem below_drewM {B : Nat} {a w : World} (h : Below B a w) (n : Nat) : Below B a (w.drewN n) := h.trans ⟨rfl, rfl, rfl, Nat.le_refl _, fun _ _ => rfl⟩
set_option maxHeartbeats 4000000 in
set_option maxRecDepth 100000 in
theorem ints_same (a b c d n : Nat) (xs : List Int) (w : World) (ha : a < w.heap.size) (hb : b < w.heap.size) (hl : xs.length = n) (hn : (n : Int) ≤ c ∧ (n : Int) ≤ d) (hc : (c : Int) ≤ 9223372036854775807 ∧ (d : Int) ≤ 9223372036854775807)
    (h1 : ∀ (j : Nat) x, xs[j]? = some x → w.cell? ⟨a, j, none⟩ = some (.int .i64 x)) (h2 : ∀ (j : Nat) x, xs[j]? = some x → w.cell? ⟨b, j, none⟩ = some (.int .i64 x)) :
    Calls Tryd.prog 24 #[.slice (some ⟨a, 0, none⟩) n c, .slice (some ⟨b, 0, none⟩) n d] w fun e w' => e = .returned (.bool true) ∧ Below w.heap.size w w' := by
  have H1 := Lib.hid h1
  have H2 := Lib.hid h2
  obtain ⟨hn1, hn2⟩ := hn
  obtain ⟨hc1, hc2⟩ := hc
  clear h1 h2
  go_enter Tryd.func24, Tryd.ntmps24
  go_wp2_with fail
  go_loopw [5] (fun i wr => LoopRel w n i wr) (fun i _ => n - (intOf i).toNat)
  case atStart => exact ⟨0, rfl, Nat.zero_le _, Below.refl _ _⟩
  case round =>
    obtain ⟨j, rfl, hj, hB⟩ := hrel
    have HB := Lib.hid hB
    by_cases hjl : j < n
    · have hjl' : (j : Int) < n := by omega
      obtain ⟨x, hx⟩ : ∃ x, xs[j]? = some x := ⟨_, List.getElem?_eq_getElem (by omega)⟩
      have p1 : wr.cell? ⟨a, j, none⟩ = some (.int .i64 x) := (dcell hB ha j).trans (H1.out j x hx)
      have p2 : wr.cell? ⟨b, j, none⟩ = some (.int .i64 x) := (dcell hB hb j).trans (H2.out j x hx)
      clear hB hx
      go_wp2_with fail
      go_quiet (fail)
      go_wp2_with fail
      go_roundw
      case rel => exact ⟨j + 1, rfl, by omega, by repeat (first | (with_reducible exact HB.out) | (with_reducible refine below_drewM ?_ _) | (with_reducible refine Below.drew ?_))⟩
      case measure => simp [intOf]; omega
    · have hje : j = n := by omega
      subst hje
      clear hB
      go_wp2_with fail
      go_ret
      exact ⟨rfl, HB.out⟩
end Go.Proofs.YtngobbbinacomaaDoor
