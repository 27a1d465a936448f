/- Chapter 7: a row of six fields cloned; the size of a timer; the chapter's example. -/
import Derived.Test.YtcmjcebnniajjaaWrap
import Derived.WalkKit
import Derived.Deep.DrawnRows
import Derived.Lib.Hide
import Derived.Lib.SliceRun
namespace Go.Proofs.Ytcmjcebnniajjaa
open Go.RowKit
set_option linter.unusedVariables false

theorem fieldInfo : (Try.prog.info? 36).map (fun i => (i.zero, i.size, i.bytes)) = some (some (.agg #[.string { data := #[] }, .int .i64 0]), 2, 24) := by kernel_rfl
theorem fieldRow : Try.prog.underlying 27 = some (.slice 36) := by kernel_rfl

set_option maxHeartbeats 1000000 in
theorem clone6 (g : Nat) (cs : List Value) (w : World) (hl : cs.length = 12) (h1 : ∀ u ∈ cs, u.oneCell' = true) (hc : ∀ j u, cs[j]? = some u → w.cell? ⟨g, j, none⟩ = some u) :
    Calls Try.prog 13 #[.slice (some ⟨g, 0, none⟩) 6 6] w fun e w' => (∃ b c, e = .returned (.slice (some ⟨b, 0, none⟩) 6 c)) ∧ Below w.heap.size w w' := by
  obtain ⟨i0, hi, hz0, hz1, hz2⟩ := info_parts fieldInfo
  have t27 := fieldRow
  have q27 : ∀ (w : World) (a : Option Addr) (n c n' c' : Nat), (binOp .eql 27 (.slice a n c) (.slice none n' c')).run Try.prog w = .ok (.bool a.isNone) w := fun w a n c n' c' => Lib.run_eql_slice_nil w _ _ a n c n' c' t27
  have A := Lib.hid hc
  have H1 := Lib.hid h1
  have HL := Lib.hid hl
  clear hc h1 hl
  go_enter Try.func13, Try.ntmps13
  go_wp2_with (at_builtin; refine wpList_append_own _ rfl _ _ 27 rfl w.heap.size 36 i0 _ 2 24 t27 hi hz0 hz1 hz2 rfl (by decide) _ _ _ rfl (World.ownsRow_made w #[] 0 (Nat.le_refl _) (Nat.zero_le _) rfl) ⟨g, 0, none⟩ 6 6 cs rfl ?qc1 ?qc2 ?qc3 ?qc4 ?qc5 ?qc6 ?_)
  case qc1 => rw [HL.out]
  case qc2 =>
    intro j u hj
    rw [Addr.add_lit]
    refine Lib.cell?_alloc_some _ ?_
    rw [Nat.zero_add]
    exact A.out j u hj
  case qc3 => exact H1.out
  case qc4 => unfold maxLen; omega
  case qc5 => omega
  case qc6 => simp
  intro v' w1 hown hgrow hnil
  have hf := hown.2
  have HG := Lib.hid hgrow
  clear hown hgrow hnil
  obtain ⟨b, c, rfl⟩ : ∃ b c, v' = .slice (some ⟨b, 0, none⟩) 6 c := by
    rcases hf with ⟨_, h0⟩ | ⟨b, c, cur, h0, _⟩
    · exact absurd h0 (by decide)
    · exact ⟨b, c, by simpa using h0⟩
  clear hf
  go_wp2
  go_ret
  exact ⟨⟨b, c, rfl⟩, ((Below.refl _ w).alloc (Nat.le_refl _) _).grown HG.out (by simp) (by intro k hk; simp [Value.ownBlock] at hk; omega)⟩

set_option maxHeartbeats 1000000 in
theorem row6 (g : Nat) (cs : List Value) (w : World) (hl : cs.length = 12) (h1 : ∀ u ∈ cs, u.oneCell' = true) (hc : ∀ j u, cs[j]? = some u → w.cell? ⟨g, j, none⟩ = some u) :
    Calls Try.prog 12 #[.slice (some ⟨g, 0, none⟩) 6 6] w fun e w' => (∃ b c, e = .returned (.slice (some ⟨b, 0, none⟩) 6 c)) ∧ Below w.heap.size w w' := by
  have C := Lib.hid (clone6 g cs w hl h1 hc)
  clear hl h1 hc
  go_enter Try.func12, Try.ntmps12
  go_wp2_with (go_at_call 13; (with_reducible refine C.out.mono ?_); rintro e w1 ⟨⟨b, c, rfl⟩, hb⟩; have HB := Lib.hid hb; clear hb)
  go_ret
  exact ⟨⟨b, c, rfl⟩, HB.out⟩

set_option maxHeartbeats 1000000 in
theorem fields_ton (w : World) :
    Calls Try.prog 11 #[.agg #[.int .i64 9, .int .i64 0, .int .i64 0, .slice none 0 0]] w fun e w' => (∃ b c, e = .returned (.slice (some ⟨b, 0, none⟩) 6 c)) ∧ Below w.heap.size w w' := by
  go_enter Try.func11, Try.ntmps11
  go_wp2_with fail
  refine (row6 _ [.string { data := #[73, 78] }, .int .i64 1, .string { data := #[80, 84] }, .int .i64 6, .string { data := #[81] }, .int .i64 1, .string { data := #[69, 84] }, .int .i64 6, .string { data := #[84, 48] }, .int .i64 6, .string { data := #[82, 85, 78] }, .int .i64 1] _ rfl ?_ ?_).mono ?_
  · intro u hu; simp at hu; rcases hu with rfl | rfl | rfl | rfl | rfl | rfl | rfl | rfl | rfl | rfl | rfl | rfl <;> rfl
  · intro j u hj
    have hj' : j < 12 := by have := (List.getElem?_eq_some_iff.1 hj).1; simpa using this
    rcases (show j = 0 ∨ j = 1 ∨ j = 2 ∨ j = 3 ∨ j = 4 ∨ j = 5 ∨ j = 6 ∨ j = 7 ∨ j = 8 ∨ j = 9 ∨ j = 10 ∨ j = 11 by omega) with rfl | rfl | rfl | rfl | rfl | rfl | rfl | rfl | rfl | rfl | rfl | rfl <;> (simp at hj; subst hj; go_simp)
  rintro e w1 ⟨⟨b, c, rfl⟩, hb⟩
  have HB := Lib.hid hb
  clear hb
  go_wp2
  go_ret
  refine ⟨⟨b, c, rfl⟩, ?_⟩
  exact (((Below.refl _ w).alloc (Nat.le_refl _) _).alloc (by simp) _).trans (HB.out.mono (by simp; omega))
end Go.Proofs.Ytcmjcebnniajjaa
