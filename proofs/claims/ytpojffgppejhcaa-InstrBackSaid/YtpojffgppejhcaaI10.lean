/- Chapter 10: a row of instructions, as it lies; cloned. -/
import Derived.Test.YtpojffgppejhcaaA10
namespace Go.Proofs.Ytpojffgppejhcaa
open Go.RowKit
set_option linter.unusedVariables false
set_option linter.unusedSimpArgs false

theorem opInfo : (Try.prog.info? 25).map (fun i => (i.zero, i.size, i.bytes)) = some (some (.agg #[.int .i64 0, .int .i64 0, .int .i64 0, .int .i64 0, .int .i64 0]), 5, 40) := by kernel_rfl
theorem opRow : Try.prog.underlying 33 = some (.slice 25) := by kernel_rfl

/-- Behind an append of its own: what a row holds. -/
theorem owns_cells {w : World} {base : Nat} {e : TypeId} {size n : Nat} {v : Value} {xs : List Value} (h : w.ownsRow base e size v n xs) :
    ∃ A cap, v = .slice A n cap ∧ n ≤ cap ∧ cap ≤ 9223372036854775807 ∧ (0 < n → ∃ b, A = some ⟨b, 0, none⟩ ∧ base ≤ b ∧ b < w.heap.size ∧ ∀ j u, xs[j]? = some u → w.cell? ⟨b, j, none⟩ = some u) := by
  have h' := h
  obtain ⟨hl, h2⟩ := h
  rcases h2 with ⟨rfl, rfl⟩ | ⟨g, cap, cur, rfl, hg, hh, hn, hm, hs, ht⟩
  · exact ⟨none, 0, rfl, by omega, by omega, fun h => absurd h (by omega)⟩
  · refine ⟨some ⟨g, 0, none⟩, cap, rfl, hn, hm, fun _ => ⟨g, rfl, hg, (h'.lt g rfl).2, fun j u hj => ?_⟩⟩
    have := h'.cells (g := g) rfl j u hj
    rw [Addr.add_lit, Nat.zero_add] at this
    exact this

set_option maxHeartbeats 1000000 in
theorem clone_any (A : Option Addr) (n cap : Nat) (cs : List Value) (w : World) (hl : cs.length = n * 5) (hn : n ≤ 10000) (h1 : ∀ u ∈ cs, u.oneCell' = true)
    (hA : 0 < n → ∃ b off, A = some ⟨b, off, none⟩ ∧ b < w.heap.size ∧ ∀ j u, cs[j]? = some u → w.cell? ⟨b, off + j, none⟩ = some u) (h0 : n = 0 → A = none) :
    Calls Try.prog 23 #[.slice A n cap] w fun e w' =>
      (∃ B c, e = .returned (.slice B n c) ∧ (0 < n → ∃ b, B = some ⟨b, 0, none⟩ ∧ w.heap.size ≤ b ∧ b < w'.heap.size ∧ ∀ j u, cs[j]? = some u → w'.cell? ⟨b, j, none⟩ = some u)) ∧ Below w.heap.size w w' := by
  obtain ⟨i0, hi, hz0, hz1, hz2⟩ := info_parts opInfo
  have t27 := opRow
  have q27 : ∀ (w : World) (a : Option Addr) (n c n' c' : Nat), (binOp .eql 33 (.slice a n c) (.slice none n' c')).run Try.prog w = .ok (.bool a.isNone) w := fun w a n c n' c' => Lib.run_eql_slice_nil w _ _ a n c n' c' t27
  have HL := Lib.hid hl
  have H1 := Lib.hid h1
  clear hl h1
  rcases Nat.eq_zero_or_pos n with hz | hp
  · have := h0 hz
    subst hz this
    clear hA h0
    go_enter Try.func23, Try.ntmps23
    go_wp2
    go_ret
    exact ⟨⟨none, 0, rfl, fun h => absurd h (by omega)⟩, Below.refl _ _⟩
  · obtain ⟨b, off, rfl, hb, hc⟩ := hA hp
    have HC := Lib.hid hc
    clear hA h0 hc
    go_enter Try.func23, Try.ntmps23
    go_wp2_with (at_builtin; refine wpList_append_own _ rfl _ _ 33 rfl w.heap.size 25 i0 _ 5 40 t27 hi hz0 hz1 hz2 rfl (by decide) _ _ _ rfl (World.ownsRow_made w #[] 0 (Nat.le_refl _) (Nat.zero_le _) rfl) ⟨b, off, none⟩ n cap cs rfl ?qc1 ?qc2 ?qc3 ?qc4 ?qc5 ?qc6 ?_)
    case qc1 => rw [HL.out]
    case qc2 =>
      intro j u hj
      rw [Addr.add_lit]
      exact Lib.cell?_alloc_some _ (HC.out j u hj)
    case qc3 => exact H1.out
    case qc4 => unfold maxLen; omega
    case qc5 => omega
    case qc6 => simp
    intro v' w1 hown hgrow hnil
    have hf := owns_cells hown
    have HG := Lib.hid hgrow
    clear hown hgrow hnil
    obtain ⟨B, c, rfl, _, _, hcell⟩ := hf
    change 0 < n → ∃ b, B = some ⟨b, 0, none⟩ ∧ w.heap.size ≤ b ∧ b < w1.heap.size ∧ ∀ j u, cs[j]? = some u → w1.cell? ⟨b, j, none⟩ = some u at hcell
    have HC2 := Lib.hid hcell
    clear hcell
    go_wp2
    go_ret
    refine ⟨⟨B, c, by simp, fun h => HC2.out h⟩, ((Below.refl _ w).alloc (Nat.le_refl _) _).grown HG.out (by simp) (by intro k hk; simp [Value.ownBlock] at hk; omega)⟩
end Go.Proofs.Ytpojffgppejhcaa
