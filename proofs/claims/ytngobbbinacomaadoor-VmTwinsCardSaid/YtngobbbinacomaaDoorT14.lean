/- Chapter 14: the chapter's example; two values and one sign. -/
import Derived.Test.YtngobbbinacomaaDoorS14
namespace Go.Proofs.YtngobbbinacomaaDoor
open Go.RowKit Go.Proofs.YtngobbbinacomaaDoor.c11 Go.Proofs.YtngobbbinacomaaDoor.c10
set_option linter.unusedVariables false
set_option linter.unusedSimpArgs false
attribute [local go_sem ↓] Go.wp_at_zero Go.wp_at_succ

def kb : List Int := [24, 1, 25, 2, 0]
theorem kb_run (La : Option Addr) (Lc f g : Nat) : execP (atLay (env1 kb f g 0 9 0 0 0) La Lc) 6 kb 0 ⟨[], 1, 0, 0, 0, 5, 0, []⟩ = (⟨[], 1, 0, 9, 0, 2, 3, []⟩, 0) := by kernel_rfl
def sb (s : Int) : List Int := [24, 0, 24, 1, s, 25, 3, 0]
theorem sb_rd (s : Int) (h : s = 7 ∨ s = 8 ∨ s = 9 ∨ s = 10 ∨ s = 11) : rdL (sb s) 0 = ((0, 2, 24, 0, 0), 0) ∧ rdL (sb s) 2 = ((2, 4, 24, 1, 0), 0) ∧ rdL (sb s) 4 = ((4, 5, s, 0, 0), 0) ∧ rdL (sb s) 5 = ((5, 7, 25, 3, 0), 0) ∧ rdL (sb s) 7 = ((7, 8, 0, 0, 0), 0) := by
  rcases h with rfl | rfl | rfl | rfl | rfl <;> exact ⟨rfl, rfl, rfl, rfl, rfl⟩
theorem rows_run (La : Option Addr) (Lc f g : Nat) (s x y : Int) (h : s = 7 ∨ s = 8 ∨ s = 9 ∨ s = 10 ∨ s = 11) : execP (atLay (env1 (sb s) f g x y 0 0 0) La Lc) 10 (sb s) 0 ⟨[], 0, 0, 0, 0, 9, 0, []⟩ =
    if twoE s 5 5 (wrapK 5 y) = 0 then (⟨[], 0, 0, 0, twoM s 5 5 (wrapK 5 x) (wrapK 5 y), 4, 5, []⟩, 0) else (⟨[], 0, 0, 0, 0, 6, 3, []⟩, twoE s 5 5 (wrapK 5 y)) := by
  obtain ⟨r0, r2, r4, r5, r7⟩ := sb_rd s h
  rw [ex_op r0 (by simp) (by decide) (S1 := ⟨[], 0, 0, 0, 0, 8, 1, [(5, wrapK 5 x)]⟩) (x := 0) rfl, if_pos rfl]
  rw [ex_op r2 (by simp) (by decide) (S1 := ⟨[], 0, 0, 0, 0, 7, 2, [(5, wrapK 5 x), (5, wrapK 5 y)]⟩) (x := 0) rfl, if_pos rfl]
  have hs : s ≠ 0 ∧ s ≠ 18 ∧ s ≠ 19 ∧ s ≠ 20 := by omega
  by_cases ht : twoE s 5 5 (wrapK 5 y) = 0
  · rw [if_pos ht]
    rw [ex_op r4 (by simp) hs (S1 := ⟨[], 0, 0, 0, 0, 6, 3, [(kindM s 5 5, twoM s 5 5 (wrapK 5 x) (wrapK 5 y))]⟩) (x := 0) ?_, if_pos rfl]
    · rw [ex_op r5 (by simp) (by decide) (S1 := ⟨[], 0, 0, 0, twoM s 5 5 (wrapK 5 x) (wrapK 5 y), 5, 4, []⟩) (x := 0) rfl, if_pos rfl]
      rw [ex_end r7 (by simp)]
      rfl
    · rcases h with rfl | rfl | rfl | rfl | rfl <;> simp [doP, memoryP, operateP, popS, pushS, ht]
  · rw [if_neg ht]
    rw [ex_op r4 (by simp) hs (S1 := ⟨[], 0, 0, 0, 0, 6, 3, []⟩) (x := twoE s 5 5 (wrapK 5 y)) ?_, if_neg ht]
    rcases h with rfl | rfl | rfl | rfl | rfl <;> simp [doP, memoryP, operateP, popS, ht]
theorem wrapK5 (n : Int) : wrapK 5 (wrapK 5 n) = wrapK 5 n := by
  simp only [wrapK]
  simp
  unfold wrap32
  omega

theorem kb_ok : (∀ x ∈ kb, 0 ≤ x ∧ x < 256) ∧ (∀ x ∈ kb, x ≠ 27) ∧ kb.length ≤ 4611686018427387904 := by decide
theorem sb_ok (s : Int) (h : s = 7 ∨ s = 8 ∨ s = 9 ∨ s = 10 ∨ s = 11) : (∀ x ∈ sb s, 0 ≤ x ∧ x < 256) ∧ (∀ x ∈ sb s, x ≠ 27) ∧ (sb s).length ≤ 4611686018427387904 := by
  rcases h with rfl | rfl | rfl | rfl | rfl <;> decide

/-- What a run answers with, its error and all. -/
def Ran (w : World) (o0 o1 o2 o3 : Int) (used : Nat) (x : Int) (e : Ending) (w' : World) : Prop :=
  Below w.heap.size w w' ∧ ∃ A c, e = .returned (.tuple #[.slice A 0 c, .agg #[.int .i64 o0, .int .i64 o1, .int .i64 o2, .int .i64 o3], .int .i64 used, .int .i64 x])

theorem runA {w : World} {f g : Nat} (h : CodeIn w w.heap.size f g kb) : Calls Tryd.prog 22 #[.agg #[.slice none 0 0, .slice none 0 0, .slice (some ⟨f, 0, none⟩) 1 1], .slice none 0 0, .agg #[.int .i64 0, .int .i64 0, .int .i64 0, .int .i64 0], .agg #[.int .i64 0, .int .i64 0, .int .i64 0, .int .i64 0], .int .i64 0, .int .i64 0] w
    (Ran w 0 0 0 0 0 23) := by
  refine (run1 h kb_ok.1 kb_ok.2.1 kb_ok.2.2 0 0 0 0 0 0 0 0 0 0 (by decide) (fun La Lc => ex_trip rfl) rfl).mono ?_
  rintro e w' ⟨hb, v, he, hv⟩
  obtain ⟨A, c, rfl, _, _⟩ := own_slice hv
  exact ⟨hb, A, c, by simpa using he⟩
theorem runB {w : World} {f g : Nat} (h : CodeIn w w.heap.size f g kb) : Calls Tryd.prog 22 #[.agg #[.slice none 0 0, .slice none 0 0, .slice (some ⟨f, 0, none⟩) 1 1], .slice none 0 0, .agg #[.int .i64 0, .int .i64 9, .int .i64 0, .int .i64 0], .agg #[.int .i64 1, .int .i64 0, .int .i64 0, .int .i64 0], .int .i64 0, .int .i64 5] w
    (Ran w 1 0 9 0 3 0) := by
  refine (run1 h kb_ok.1 kb_ok.2.1 kb_ok.2.2 0 9 0 0 1 0 0 0 0 5 (by decide) (fun La Lc => kb_run La Lc f g) rfl).mono ?_
  rintro e w' ⟨hb, v, he, hv⟩
  obtain ⟨A, c, rfl, _, _⟩ := own_slice hv
  exact ⟨hb, A, c, by simpa using he⟩
theorem runR {w : World} {f g : Nat} (s x y : Int) (hs : s = 7 ∨ s = 8 ∨ s = 9 ∨ s = 10 ∨ s = 11) (hx : wrapK 5 x = x) (hy : wrapK 5 y = y) (h : CodeIn w w.heap.size f g (sb s)) :
    Calls Tryd.prog 22 #[.agg #[.slice none 0 0, .slice none 0 0, .slice (some ⟨f, 0, none⟩) 1 1], .slice none 0 0, .agg #[.int .i64 x, .int .i64 y, .int .i64 0, .int .i64 0], .agg #[.int .i64 0, .int .i64 0, .int .i64 0, .int .i64 0], .int .i64 0, .int .i64 9] w
    (fun e w' => (twoE s 5 5 y = 0 → Ran w 0 0 0 (twoM s 5 5 x y) 5 0 e w') ∧ (twoE s 5 5 y ≠ 0 → Ran w 0 0 0 0 3 (twoE s 5 5 y) e w')) := by
  obtain ⟨h1, h2, h3⟩ := sb_ok s hs
  have hr := fun La Lc => rows_run La Lc f g s x y hs
  rw [hx, hy] at hr
  by_cases ht : twoE s 5 5 y = 0
  · refine (run1 h h1 h2 h3 x y 0 0 0 0 0 0 0 9 (by decide) (fun La Lc => (hr La Lc).trans (if_pos ht)) rfl).mono ?_
    rintro e w' ⟨hb, v, he, hv⟩
    obtain ⟨A, c, rfl, _, _⟩ := own_slice hv
    exact ⟨fun _ => ⟨hb, A, c, by simpa using he⟩, fun hn => absurd ht hn⟩
  · refine (run1 h h1 h2 h3 x y 0 0 0 0 0 0 0 9 (by decide) (fun La Lc => (hr La Lc).trans (if_neg ht)) rfl).mono ?_
    rintro e w' ⟨hb, v, he, hv⟩
    obtain ⟨A, c, rfl, _, _⟩ := own_slice hv
    exact ⟨fun h0 => absurd h0 ht, fun _ => ⟨hb, A, c, by simpa [ht] using he⟩⟩
end Go.Proofs.YtngobbbinacomaaDoor
