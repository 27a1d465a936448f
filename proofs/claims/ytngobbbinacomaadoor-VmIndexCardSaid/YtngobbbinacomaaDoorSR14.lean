/- Chapter 14: VmIndex' image: it is fine; its cells, its runs. -/
import Derived.Test.YtngobbbinacomaaDoorSP14
namespace Go.Proofs.YtngobbbinacomaaDoor
open Go.RowKit Go.Proofs.YtngobbbinacomaaDoor.c11 Go.Proofs.YtngobbbinacomaaDoor.c10 Go.Proofs.YtngobbbinacomaaDoor.c13
set_option linter.unusedVariables false
set_option linter.unusedSimpArgs false
attribute [local go_sem ↓] Go.wp_at_zero Go.wp_at_succ

def ixRow (H N : Nat) : Array Value := #[.string { data := #[120] }, .int .i64 5, .int .i64 0, .int .i64 0, .slice none 0 0, .bool false, .slice (some ⟨H, 0, none⟩) 1 1, .string { data := #[97] }, .int .i64 7, .int .i64 5, .int .i64 N, .slice none 0 0, .bool false, .slice (some ⟨H + 1, 0, none⟩) N N, .string { data := #[121] }, .int .i64 5, .int .i64 0, .int .i64 0, .slice none 0 0, .bool false, .slice (some ⟨H + 1 + 1, 0, none⟩) 1 1]
/-- The image that VmIndex makes. -/
def ixWorld (w : World) (N : Nat) : World :=
  (((((((w.alloc (.cells #[.int .i64 4] 3)).alloc (.cells (Array.replicate N (.int .i64 0)) 3)).alloc (.cells #[.int .i64 6] 3)).alloc (.cells (ixRow w.heap.size N) 52)).alloc (.cells (ixC.map (Value.int .u8)).toArray 5)).alloc (.cells #[.slice (some ⟨w.heap.size + 1 + 1 + 1 + 1, 0, none⟩) 13 13] 44)).alloc (.cells #[.slice (some ⟨w.heap.size + 1 + 1 + 1, 0, none⟩) 3 3, .slice none 0 0, .slice (some ⟨w.heap.size + 1 + 1 + 1 + 1 + 1, 0, none⟩) 1 1] 29))
structure IxMade (wb : World) (H N : Nat) : Prop where
  syms : Syms wb wb.heap.size (some ⟨H + 1 + 1 + 1, 0, none⟩) 3 (symsX N)
  code : CodeC wb wb.heap.size (H + 1 + 1 + 1 + 1 + 1) (H + 1 + 1 + 1 + 1) ixC 13
  m0 : wb.cell? ⟨H + 1 + 1 + 1 + 1 + 1 + 1, 0, none⟩ = some (.slice (some ⟨H + 1 + 1 + 1, 0, none⟩) 3 3)
  m1 : wb.cell? ⟨H + 1 + 1 + 1 + 1 + 1 + 1, 1, none⟩ = some (.slice none 0 0)
  m2 : wb.cell? ⟨H + 1 + 1 + 1 + 1 + 1 + 1, 2, none⟩ = some (.slice (some ⟨H + 1 + 1 + 1 + 1 + 1, 0, none⟩) 1 1)
  lt : H + 7 ≤ wb.heap.size
theorem IxMade.below {w w' : World} {H N : Nat} (h : IxMade w H N) (hb : Below w.heap.size w w') : IxMade w' H N :=
  ⟨(h.syms.below hb).moreS hb.size, (h.code.below hb).more hb.size, (dcell hb (by have := h.lt; omega) 0).trans h.m0, (dcell hb (by have := h.lt; omega) 1).trans h.m1, (dcell hb (by have := h.lt; omega) 2).trans h.m2, Nat.le_trans h.lt hb.size⟩
theorem ix_made (w : World) (N : Nat) (hN : Eight N) : IxMade (ixWorld w N) w.heap.size N ∧ Below w.heap.size w (ixWorld w N) := by
  have hz : (ixWorld w N).heap.size = w.heap.size + 7 := by simp [ixWorld]
  have hb0 : Below w.heap.size w (ixWorld w N) := by
    unfold ixWorld
    repeat (first | exact Below.refl _ _ | refine Below.alloc ?_ (by first | omega | (simp; done) | (simp; omega)) _)
  have q0 : (ixWorld w N).heap[w.heap.size]? = some (.cells #[.int .i64 4] 3 (0, 0)) := by
    simp only [ixWorld, heap_at, size_at]
    repeat (first | rw [if_neg (by omega)] | rw [if_pos (by omega)])
    simp
  have q1 : (ixWorld w N).heap[w.heap.size + 1]? = some (.cells (Array.replicate N (.int .i64 0)) 3 (0, 0)) := by simp only [ixWorld, heap_at, size_at]; simp
  have q2 : (ixWorld w N).heap[w.heap.size + 1 + 1]? = some (.cells #[.int .i64 6] 3 (0, 0)) := by simp only [ixWorld, heap_at, size_at]; simp
  have q3 : (ixWorld w N).heap[w.heap.size + 1 + 1 + 1]? = some (.cells (ixRow w.heap.size N) 52 (0, 0)) := by simp only [ixWorld, heap_at, size_at]; simp
  have q4 : (ixWorld w N).heap[w.heap.size + 1 + 1 + 1 + 1]? = some (.cells (ixC.map (Value.int .u8)).toArray 5 (0, 0)) := by simp only [ixWorld, heap_at, size_at]; simp
  have q5 : (ixWorld w N).heap[w.heap.size + 1 + 1 + 1 + 1 + 1]? = some (.cells #[.slice (some ⟨w.heap.size + 1 + 1 + 1 + 1, 0, none⟩) 13 13] 44 (0, 0)) := by simp only [ixWorld, heap_at, size_at]; simp
  have q6 : (ixWorld w N).heap[w.heap.size + 1 + 1 + 1 + 1 + 1 + 1]? = some (.cells #[.slice (some ⟨w.heap.size + 1 + 1 + 1, 0, none⟩) 3 3, .slice none 0 0, .slice (some ⟨w.heap.size + 1 + 1 + 1 + 1 + 1, 0, none⟩) 1 1] 29 (0, 0)) := by simp only [ixWorld, heap_at, size_at]; simp
  refine ⟨⟨⟨rfl, fun _ => ⟨_, 0, rfl, by omega, fun i s hi => ?_⟩, symsX_ok N hN⟩, ⟨cell_of_row _ _ 0 _ _ (0, 0) q5, fun j u hu => (cell_of_row _ _ j _ _ (0, 0) q4).trans (by simpa using hu), by omega, by omega, by decide⟩, cell_of_row _ _ 0 _ _ (0, 0) q6, cell_of_row _ _ 1 _ _ (0, 0) q6, cell_of_row _ _ 2 _ _ (0, 0) q6, by omega⟩, hb0⟩
  have hi3 : i < 3 := by have := (List.getElem?_eq_some_iff.1 hi).1; simpa [symsX] using this
  rcases (show i = 0 ∨ i = 1 ∨ i = 2 by omega) with rfl | rfl | rfl
  · simp [symsX] at hi; subst hi; exact symAt_lit q3 (q := w.heap.size) q0 (by omega) rfl (by decide) rfl
  · simp [symsX] at hi; subst hi
    refine symAt_lit q3 (q := w.heap.size + 1) (t' := 3) ?_ (by omega) rfl (by simp [sIa]; unfold Eight at hN; omega) ?_
    · rw [q1]; congr 2; simp [sIa]
    · simp [ixRow, sIa]
  · simp [symsX] at hi; subst hi; exact symAt_lit q3 (q := w.heap.size + 1 + 1) q2 (by omega) rfl (by decide) rfl
theorem ix_check {wb : World} {H N : Nat} (h : IxMade wb H N) (hN : Eight N) :
    Calls Tryd.prog 28 #[.agg #[.slice (some ⟨H + 1 + 1 + 1, 0, none⟩) 3 3, .slice none 0 0, .slice (some ⟨H + 1 + 1 + 1 + 1 + 1, 0, none⟩) 1 1]] wb fun e w' => e = .returned (.int .i64 0) ∧ Below wb.heap.size wb w' := by
  have hT := ixC_cert N hN
  have hone : ∀ (k : Nat) (b' : List Int), [ixC][k]? = some b' → b' = ixC := by
    intro k b' hk
    cases k with
    | zero => simp at hk; exact hk.symm
    | succ k => simp at hk
  have hsm : ∀ x ∈ ixC, 0 ≤ x ∧ x < 256 := by decide
  exact rimage_ok (some ⟨H + 1 + 1 + 1, 0, none⟩) 3 (symsX N) none 0 [] (some ⟨H + 1 + 1 + 1 + 1 + 1, 0, none⟩) 1 [ixC] (fun _ => some ⟨H + 1 + 1 + 1 + 1, 0, none⟩) (fun _ => 13) wb (imgAtC h.syms (by show (3 : Nat) ≤ 3 ∧ (3 : Nat) ≤ 9223372036854775807; decide) Row.nil (by decide) h.code hsm) (symsX_good N hN) (by show (3 : Nat) ≤ 12; decide) (symsX_size N hN) (by decide) (fun x hx => by cases hx) (by simp) (fun b' hb' => by simp at hb'; subst hb'; decide) (fun k b' hk => by rw [hone k b' hk]; exact ⟨ixC_read, hT⟩) (fun u hu => rcalls_ok _ _ _ _ _ _ _ _ _ _ _ u hu (by simp) (fun b' hb' => by simp at hb'; subst hb'; decide) (fun k b' hk => by rw [hone k b' hk]; exact ⟨ixC_read, hT.choose_spec.sml, ixC_calls⟩))
theorem ix_cells {wb : World} {H N : Nat} (h : IxMade wb H N) (hN : Eight N) :
    Calls Tryd.prog 20 #[.agg #[.slice (some ⟨H + 1 + 1 + 1, 0, none⟩) 3 3, .slice none 0 0, .slice (some ⟨H + 1 + 1 + 1 + 1 + 1, 0, none⟩) 1 1], .slice none 0 0] wb fun e w' => (∃ g c, e = .returned (.slice (some ⟨g, 0, none⟩) (N + 2) c) ∧ N + 2 ≤ c ∧ w'.ownsRow wb.heap.size 3 1 (.slice (some ⟨g, 0, none⟩) (N + 2) c) (N + 2) ((begX N).map (Value.int .i64))) ∧ Below wb.heap.size wb w' := by
  refine (lcells_any (some ⟨H + 1 + 1 + 1, 0, none⟩) 3 3 (symsX N) none _ 0 0 1 1 wb h.syms (by decide) (by decide) (by decide) (symsX_size N hN)).mono ?_
  rintro e w4 ⟨v4, rfl, ho4, hb4⟩
  refine ⟨?_, hb4⟩
  rw [symsX_begin N hN, symsX_cells N hN] at ho4
  obtain ⟨g, cap, rfl, _, _⟩ := ho4.form (by omega)
  obtain ⟨_, c', h0, h1, h2⟩ := own_slice ho4
  obtain rfl : cap = c' := by injection h0
  exact ⟨g, cap, rfl, h1, ho4⟩
theorem ix_run {wb : World} {H N : Nat} {B : Nat} (h : IxMade wb H N) (hN : Eight N) {ww wc : Nat} (ho : wb.ownsRow B 3 1 (.slice (some ⟨ww, 0, none⟩) (N + 2) wc) (N + 2) ((begX N).map (Value.int .i64))) (hc : N + 2 ≤ wc) (i v : Int) {R : St} {x : Int}
    (hR : ∀ SA SC Ca Cc f g La Lc, execP (envC SA SC (symsX N) [] Ca Cc ixC 13 f g i v 0 0 0 La Lc) 21 ixC 0 ⟨begX N, 0, 0, 0, 0, 20, 0, []⟩ = (R, x)) :
    Calls Tryd.prog 22 #[.agg #[.slice (some ⟨H + 1 + 1 + 1, 0, none⟩) 3 3, .slice none 0 0, .slice (some ⟨H + 1 + 1 + 1 + 1 + 1, 0, none⟩) 1 1], .slice (some ⟨ww, 0, none⟩) (N + 2) wc, .agg #[.int .i64 i, .int .i64 v, .int .i64 0, .int .i64 0], .agg #[.int .i64 0, .int .i64 0, .int .i64 0, .int .i64 0], .int .i64 0, .int .i64 20] wb fun e w' =>
      Below wb.heap.size wb w' ∧ (x = 0 → ∃ v, e = .returned (.tuple #[v, .agg #[.int .i64 R.o0, .int .i64 R.o1, .int .i64 R.o2, .int .i64 R.o3], .int .i64 R.used, .int .i64 0]) ∧ w'.ownsRow wb.heap.size 3 1 v R.cells.length (R.cells.map (Value.int .i64))) ∧
        (x ≠ 0 → e = .returned (.tuple #[.slice none 0 0, .agg #[.int .i64 0, .int .i64 0, .int .i64 0, .int .i64 0], .int .i64 R.used, .int .i64 x])) := by
  have h8 : 1 ≤ N ∧ N ≤ 8 := by unfold Eight at hN; omega
  exact runC (w := wb) (SA := some ⟨H + 1 + 1 + 1, 0, none⟩) (SC := 3) (l := symsX N) (consts := []) (Ca := none) (Cc := 0) (b := ixC) (c := 13) h.syms (by show (3 : Nat) ≤ 10000; decide) (by show (3 : Nat) ≤ 3 ∧ (3 : Nat) ≤ 9223372036854775807; decide) Row.nil (by decide) h.code (by decide) (by decide) (symsX_lens N hN) (some ⟨ww, 0, none⟩) (N + 2) wc (begX N) (Row.of_own ho) (by omega) hc i v 0 0 0 0 0 0 0 20 (by decide) (fun La Lc => hR _ _ _ _ _ _ La Lc)
end Go.Proofs.YtngobbbinacomaaDoor
