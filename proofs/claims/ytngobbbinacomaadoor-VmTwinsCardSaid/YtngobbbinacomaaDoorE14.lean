/- Chapter 14: what an instruction does with cells. -/
import Derived.Test.YtngobbbinacomaaDoorD14
import Derived.Outline
namespace Go.Proofs.YtngobbbinacomaaDoor
open Go.RowKit Go.Proofs.YtngobbbinacomaaDoor.c11
set_option linter.unusedVariables false
set_option linter.unusedSimpArgs false
attribute [local go_sem ↓] Go.wp_at_zero Go.wp_at_succ

/-- A cell written. -/
theorem Mach.store {M : Who} {w : World} {K : Nat} {sv kv : Value} {S : St} (h : Mach M w K sv kv S) {cb cap : Nat} (hC : M.C = .slice (some ⟨cb, 0, none⟩) S.cells.length cap) (j : Nat) (x : Int) :
    Mach M (w.setCell ⟨cb, j, none⟩ (.int .i64 x)) K sv kv { S with cells := S.cells.set j x } ∧ Step M K w sv kv (w.setCell ⟨cb, j, none⟩ (.int .i64 x)) sv kv := by
  have hob : M.C.ownBlock = some cb := by rw [hC]; rfl
  have hcg := (h.cK cb hob).2
  have hfr : Fr M K w (w.setCell ⟨cb, j, none⟩ (.int .i64 x)) := ⟨rfl, rfl, rfl, by simp [World.setCell], fun b _ _ h2 => Below.heap_setCell w ⟨cb, j, none⟩ _ b (fun e => h2 (by rw [hob, e]))⟩
  have hcells := h.cells
  rw [hC] at hcells
  have hst := (hcells.stored j (.int .i64 x)).1
  refine ⟨h.fr hfr ((Below.heap_setCell w ⟨cb, j, none⟩ _ M.g (Ne.symm hcg)).trans h.blk) ?_ (own_setFar h.stk ?_ _) (own_setFar h.knd ?_ _) h.apart h.bud h.hi, ⟨hfr, fun b hb f => ⟨Below.heap_setCell w ⟨cb, j, none⟩ _ b (fun e => f.c (by rw [hob, e])), f⟩⟩⟩
  · show World.ownsRow _ _ _ _ M.C (S.cells.set j x).length ((S.cells.set j x).map _)
    rw [List.length_set, List.map_set, hC]
    exact hst
  · intro e
    rcases h.c_stk with h0 | h0
    · rw [hob] at h0; cases h0
    · exact h0 (hob.trans e.symm)
  · intro e
    rcases h.c_knd with h0 | h0
    · rw [hob] at h0; cases h0
    · exact h0 (hob.trans e.symm)

/-- The cells' row, where there is a cell. -/
theorem Mach.row {M : Who} {w : World} {K : Nat} {sv kv : Value} {S : St} (h : Mach M w K sv kv S) (hn : 0 < S.cells.length) : ∃ cb cap, M.C = .slice (some ⟨cb, 0, none⟩) S.cells.length cap ∧ cb < K ∧ cb ≠ M.g ∧ (S.cells.length ≤ cap ∧ cap ≤ 9223372036854775807) ∧ w.frozen? ⟨cb, 0, none⟩ = false ∧
    ∀ j x, S.cells[j]? = some x → w.cell? ⟨cb, j, none⟩ = some (.int .i64 x) ∧ w.frozen? ⟨cb, j, none⟩ = false := by
  obtain ⟨cb, cap, hC, _, _⟩ := h.cells.form hn
  have hob : M.C.ownBlock = some cb := by rw [hC]; rfl
  have hk := h.cK cb hob
  have hc := h.cells
  rw [hC] at hc
  obtain ⟨_, c', e, h1, h2⟩ := own_slice hc
  have hcc : cap = c' := by injection e
  subst hcc
  refine ⟨cb, cap, hC, hk.1, hk.2, ⟨h1, h2⟩, hc.frozenAt 0, fun j x hj => ⟨?_, hc.frozenAt j⟩⟩
  have := hc.cells (g := cb) rfl j (.int .i64 x) (by simp [hj])
  rw [Addr.add_lit, Nat.zero_add] at this
  exact this

theorem field_kind (p : ByteArray) (k : Int) (r : Bool) (i l b : Int) (w : World) : (Instr.field 42 (.agg #[.string p, .int .i64 k, .bool r, .int .i64 i, .int .i64 l, .int .i64 b]) 1).run Tryd.prog w = .ok (.int .i64 k) w := by kernel_rfl
theorem field_len (p : ByteArray) (k : Int) (r : Bool) (i l b : Int) (w : World) : (Instr.field 42 (.agg #[.string p, .int .i64 k, .bool r, .int .i64 i, .int .i64 l, .int .i64 b]) 4).run Tryd.prog w = .ok (.int .i64 l) w := by kernel_rfl
theorem field_block (p : ByteArray) (k : Int) (r : Bool) (i l b : Int) (w : World) : (Instr.field 42 (.agg #[.string p, .int .i64 k, .bool r, .int .i64 i, .int .i64 l, .int .i64 b]) 5).run Tryd.prog w = .ok (.int .i64 b) w := by kernel_rfl

/-- The cell that an index leads to, and its error. -/
def indexP (E : Env) (n : Nat) (at_ i : Int) : Int × Int := if i < 0 ∨ (cellD E.lay at_).len ≤ i ∨ isAt n (at_ + i) = false then (0, 22) else (at_ + i, 0)

set_option maxHeartbeats 4000000 in
set_option maxRecDepth 100000 in
theorem index_any (M : Who) (w : World) (K : Nat) (sv kv : Value) (S : St) (h : Mach M w K sv kv S) (at_ i : Int) (ha : 0 ≤ at_ ∧ at_ ≤ 1000000) (hlen : (cellD M.E.lay at_).len ≤ 1000000) :
    Calls Tryd.prog 97 #[.pointer (some ⟨M.g, 0, none⟩), .int .i64 at_, .int .i64 i] w fun e w' => e = .returned (.tuple #[.int .i64 (indexP M.E S.cells.length at_ i).1, .int .i64 (indexP M.E S.cells.length at_ i).2]) ∧ Below w.heap.size w w' := by
  obtain ⟨Ac, cc, hC, hcc, hcm⟩ := own_slice h.cells
  unfold maxLen at hcm
  have m0 : w.cell? ⟨M.g, 0, none⟩ = some (.slice Ac S.cells.length cc) := by rw [← hC]; exact h.cell 0
  have CE := Lib.hid (cell_any M w K sv kv S h at_)
  have hgw := h.gw
  have hn : (S.cells.length : Int) ≤ 9223372036854775807 := by omega
  obtain ⟨⟨p, kd, rt, ini, ln, bl⟩, hcd⟩ : ∃ c, cellD M.E.lay at_ = c := ⟨_, rfl⟩
  rw [hcd] at CE hlen
  simp only at CE hlen
  obtain ⟨h1a, h1b⟩ := ha
  have fl := field_len
  by_cases h1 : i < 0
  · rw [show indexP M.E S.cells.length at_ i = (0, 22) by simp [indexP, h1]]
    clear h hC CE hcd
    go_enter Tryd.func97, Tryd.ntmps97
    go_wp2
    go_ret2
    exact ⟨rfl, Below.refl _ _⟩
  have h1' : decide (i < 0) = false := by simpa using h1
  by_cases h2 : ln ≤ i
  · rw [show indexP M.E S.cells.length at_ i = (0, 22) by simp [indexP, hcd, h2]]
    clear h hC hcd
    go_enter Tryd.func97, Tryd.ntmps97
    go_wp2_with (go_at_call 96; (with_reducible refine CE.out.mono ?_); rintro e w1 ⟨rfl, hb1⟩; have HB1 := Lib.hid hb1; clear hb1)
    go_ret2
    exact ⟨rfl, HB1.out⟩
  have h2' : decide (ln ≤ i) = false := by simpa using h2
  have hs1 : IntKind.i64.wrap (at_ + i) = at_ + i := by rw [IntKind.wrap_i64]; omega
  have AT := Lib.hid (fun (u : World) (hu : u.cell? ⟨M.g, 0, none⟩ = some (.slice Ac S.cells.length cc)) => at_any M.g S.cells.length cc Ac (at_ + i) u hu hn)
  cases h3 : isAt S.cells.length (at_ + i) with
  | false =>
    rw [show indexP M.E S.cells.length at_ i = (0, 22) by simp [indexP, hcd, h3]]
    rw [h3] at AT
    clear h hC hcd h3
    go_enter Tryd.func97, Tryd.ntmps97
    go_wp2_with (first | (go_at_call 96; (with_reducible refine CE.out.mono ?_); rintro e w1 ⟨rfl, hb1⟩; have m0' := (dcell hb1 hgw 0).trans m0; have HB1 := Lib.hid hb1; clear hb1) | (go_at_call 95; (with_reducible refine (AT.out _ m0').mono ?_); rintro e w' ⟨rfl, rfl⟩))
    go_ret2
    exact ⟨rfl, HB1.out⟩
  | true =>
    rw [show indexP M.E S.cells.length at_ i = (at_ + i, 0) by simp [indexP, hcd, h1, h2, h3]]
    rw [h3] at AT
    clear h hC hcd h3
    go_enter Tryd.func97, Tryd.ntmps97
    go_wp2_with (first | (go_at_call 96; (with_reducible refine CE.out.mono ?_); rintro e w1 ⟨rfl, hb1⟩; have m0' := (dcell hb1 hgw 0).trans m0; have HB1 := Lib.hid hb1; clear hb1) | (go_at_call 95; (with_reducible refine (AT.out _ m0').mono ?_); rintro e w' ⟨rfl, rfl⟩))
    go_ret2
    exact ⟨rfl, HB1.out⟩
end Go.Proofs.YtngobbbinacomaaDoor
