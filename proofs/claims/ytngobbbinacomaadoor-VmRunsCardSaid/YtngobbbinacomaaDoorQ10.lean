/- Chapter 14: what a stack gives; ports; cells and indices. -/
import Derived.Test.YtngobbbinacomaaDoorQ09
import Derived.WalkLawsBesides
namespace Go.Proofs.YtngobbbinacomaaDoor
open Go.RowKit
set_option linter.unusedVariables false
set_option linter.unusedSimpArgs false
attribute [local go_sem ↓] Go.wp_at_zero Go.wp_at_succ
/-- The top (kind, value), and what is left; nought, if there is none. -/
def popS (S : St) : (Int × Int) × St := match S.stk.getLast? with | none => ((0, 0), S) | some p => (p, { S with stk := S.stk.dropLast })
def pushS (S : St) (k : Int) (vs : List Int) : St := { S with stk := S.stk ++ vs.map fun v => (k, v) }
theorem popS_nil {S : St} (h : S.stk = []) : popS S = ((0, 0), S) := by simp [popS, h]
theorem popS_some {S : St} {l : List (Int × Int)} {p : Int × Int} (h : S.stk = l ++ [p]) : popS S = (p, { S with stk := l }) := by simp [popS, h]
theorem popS_hi (S : St) : (popS S).2.stk.length ≤ S.stk.length := by
  rcases List.eq_nil_or_concat S.stk with h | ⟨l, p, h⟩
  · rw [popS_nil h]; exact Nat.le_refl _
  · rw [List.concat_eq_append] at h; rw [popS_some h, h]; simp
/-- From w, with the stack's rows sv, kv, to w1, with sv1, kv1. -/
structure Step (M : Who) (K : Nat) (w : World) (sv kv : Value) (w1 : World) (sv1 kv1 : Value) : Prop where
  fr : Fr M K w w1
  far : ∀ b, b < w.heap.size → Far M b sv kv → w1.heap[b]? = w.heap[b]? ∧ Far M b sv1 kv1
section
variable {M : Who} {K : Nat} {w w1 w2 : World} {sv kv sv1 kv1 sv2 kv2 : Value} {S : St}
theorem Step.refl : Step M K w sv kv w sv kv := ⟨Fr.refl _ _ _, fun _ _ f => ⟨rfl, f⟩⟩
theorem Step.trans (h : Step M K w sv kv w1 sv1 kv1) (k : Step M K w1 sv1 kv1 w2 sv2 kv2) : Step M K w sv kv w2 sv2 kv2 :=
  ⟨h.fr.trans k.fr, fun b hb f => by
    obtain ⟨e1, f1⟩ := h.far b hb f
    obtain ⟨e2, f2⟩ := k.far b (Nat.lt_of_lt_of_le hb h.fr.size) f1
    exact ⟨e2.trans e1, f2⟩⟩
theorem Step.below (h : Step M K w sv kv w1 sv1 kv1) (hK : K ≤ w.heap.size) (hb : Below w1.heap.size w1 w2) : Step M K w sv kv w2 sv1 kv1 :=
  ⟨h.fr.below hb (Nat.le_trans hK h.fr.size), fun b hl f => ⟨(hb.block b (Nat.lt_of_lt_of_le hl h.fr.size)).trans (h.far b hl f).1, (h.far b hl f).2⟩⟩
theorem Step.left (h : Step M K w sv kv w1 sv1 kv1) (k : Left M K sv1 kv1 w1 w2 S) : Left M K sv kv w w2 S := Left.trans (S1 := S) h.fr h.far k
theorem Step.mach (h : Step M K w sv kv w1 sv1 kv1) (m : Mach M w1 K sv1 kv1 S) : Left M K sv kv w w1 S := ⟨sv1, kv1, m, h.fr, h.far⟩
theorem Left.step (h : Left M K sv kv w w2 S) : ∃ sv2 kv2, Mach M w2 K sv2 kv2 S ∧ Step M K w sv kv w2 sv2 kv2 := by
  obtain ⟨sv2, kv2, h1, h2, h3⟩ := h
  exact ⟨sv2, kv2, h1, h2, h3⟩
/-- A block that was made since is as it was made. -/
theorem Step.cell (h : Step M K w sv kv w1 sv1 kv1) {b : Nat} (hb : b < w.heap.size) (f : Far M b sv kv) (o : Nat) : w1.cell? ⟨b, o, none⟩ = w.cell? ⟨b, o, none⟩ := World.cell?_of_block (a := ⟨b, o, none⟩) (h.far b hb f).1
theorem Step.frozen (h : Step M K w sv kv w1 sv1 kv1) {b : Nat} (hb : b < w.heap.size) (f : Far M b sv kv) (o : Nat) : w1.frozen? ⟨b, o, none⟩ = w.frozen? ⟨b, o, none⟩ := World.frozen?_of_block (a := ⟨b, o, none⟩) (h.far b hb f).1
end
theorem pop_any (M : Who) (w : World) (K : Nat) (sv kv : Value) (S : St) (h : Mach M w K sv kv S) :
    Calls Tryd.prog 75 #[.pointer (some ⟨M.g, 0, none⟩)] w fun e w' => e = .returned (.tuple #[.int .i64 (popS S).1.1, .int .i64 (popS S).1.2]) ∧ Left M K sv kv w w' (popS S).2 := by
  rcases List.eq_nil_or_concat S.stk with hs | ⟨l, ⟨k, x⟩, hs⟩
  · rw [popS_nil hs]
    exact (pop_nil M w K sv kv S h hs).mono fun e w' ⟨he, hw⟩ => ⟨he, by subst hw; exact h.left⟩
  · rw [List.concat_eq_append] at hs
    rw [popS_some hs]
    exact pop_some M w K sv kv S h l k x hs
def isPort (k : Int) : Bool := decide (0 ≤ k) && decide (k < 4)
theorem port_any (k : Int) (w : World) : Calls Tryd.prog 87 #[.int .i64 k] w fun e w' => e = .returned (.bool (isPort k)) ∧ w' = w := by
  by_cases h1 : 0 ≤ k
  · by_cases h2 : k < 4
    · go_enter Tryd.func87, Tryd.ntmps87
      go_wp2
      go_ret
      exact ⟨by simp [isPort, h1, h2], rfl⟩
    · have h2' : decide (k < 4) = false := by simpa using h2
      go_enter Tryd.func87, Tryd.ntmps87
      go_wp2
      go_ret
      exact ⟨by simp [isPort, h1, h2], rfl⟩
  · have h1' : decide (0 ≤ k) = false := by simpa using h1
    go_enter Tryd.func87, Tryd.ntmps87
    go_wp2
    go_ret
    exact ⟨by simp [isPort]; omega, rfl⟩
/-- Is there a cell? -/
def isAt (n : Nat) (k : Int) : Bool := decide (0 ≤ k) && decide (k < n)
theorem at_any (g n c : Nat) (A : Option Addr) (k : Int) (w : World) (hc : w.cell? ⟨g, 0, none⟩ = some (.slice A n c)) (hn : (n : Int) ≤ 9223372036854775807) :
    Calls Tryd.prog 95 #[.pointer (some ⟨g, 0, none⟩), .int .i64 k] w fun e w' => e = .returned (.bool (isAt n k)) ∧ w' = w := by
  by_cases h1 : 0 ≤ k
  · by_cases h2 : k < n
    · go_enter Tryd.func95, Tryd.ntmps95
      go_wp2
      go_ret
      exact ⟨by simp [isAt, h1, h2], rfl⟩
    · have h2' : decide (k < (n : Int)) = false := by simpa using h2
      go_enter Tryd.func95, Tryd.ntmps95
      go_wp2
      go_ret
      exact ⟨by simp [isAt, h1, h2], rfl⟩
  · have h1' : decide (0 ≤ k) = false := by simpa using h1
    go_enter Tryd.func95, Tryd.ntmps95
    go_wp2
    go_ret
    exact ⟨by simp [isAt]; omega, rfl⟩
/-- What a cell is; nothing, if there is none. -/
def cellD (l : List CellD) (k : Int) : CellD := if k < 0 ∨ (l.length : Int) ≤ k then ⟨{ data := #[] }, 0, false, 0, 0, 0⟩ else l.getD k.toNat ⟨{ data := #[] }, 0, false, 0, 0, 0⟩
set_option maxHeartbeats 2000000 in
theorem cell_any (M : Who) (w : World) (K : Nat) (sv kv : Value) (S : St) (h : Mach M w K sv kv S) (k : Int) :
    Calls Tryd.prog 96 #[.pointer (some ⟨M.g, 0, none⟩), .int .i64 k] w fun e w' =>
      e = .returned (.agg #[.string (cellD M.E.lay k).path, .int .i64 (cellD M.E.lay k).kind, .bool (cellD M.E.lay k).retain, .int .i64 (cellD M.E.lay k).init, .int .i64 (cellD M.E.lay k).len, .int .i64 (cellD M.E.lay k).block]) ∧ Below w.heap.size w w' := by
  have m8 : w.cell? ⟨M.g, 8, none⟩ = some (.slice M.E.La M.E.lay.length M.E.Lc) := h.cell 8
  have hst := h.stat
  have hgw : M.g < w.heap.size := Nat.lt_of_lt_of_le h.gK h.kw
  have hlen : (M.E.lay.length : Int) ≤ 9223372036854775807 := by have := hst.lc; omega
  by_cases h1 : k < 0
  · rw [show cellD M.E.lay k = ⟨{ data := #[] }, 0, false, 0, 0, 0⟩ by simp [cellD, h1]]
    clear h hst
    go_enter Tryd.func96, Tryd.ntmps96
    go_wp2
    exact bodyPost_ret (v := .agg #[.string { data := #[] }, .int .i64 0, .bool false, .int .i64 0, .int .i64 0, .int .i64 0]) (by simp [results, Tryd.results96, go_sem]) rfl ⟨rfl, by repeat (first | (with_reducible exact Below.refl _ _) | (with_reducible refine Below.setCell ?_ (by first | omega | (simp; done) | (simp; omega)) _) | (with_reducible refine Below.drew ?_) | (with_reducible refine Below.alloc ?_ (by first | omega | (simp; done) | (simp; omega)) _))⟩
  by_cases h2 : (M.E.lay.length : Int) ≤ k
  · rw [show cellD M.E.lay k = ⟨{ data := #[] }, 0, false, 0, 0, 0⟩ by simp [cellD, h2]]
    clear h hst
    go_enter Tryd.func96, Tryd.ntmps96
    go_wp2
    exact bodyPost_ret (v := .agg #[.string { data := #[] }, .int .i64 0, .bool false, .int .i64 0, .int .i64 0, .int .i64 0]) (by simp [results, Tryd.results96, go_sem]) rfl ⟨rfl, by repeat (first | (with_reducible exact Below.refl _ _) | (with_reducible refine Below.setCell ?_ (by first | omega | (simp; done) | (simp; omega)) _) | (with_reducible refine Below.drew ?_) | (with_reducible refine Below.alloc ?_ (by first | omega | (simp; done) | (simp; omega)) _))⟩
  obtain ⟨j, rfl⟩ : ∃ j : Nat, k = j := ⟨k.toNat, by omega⟩
  have hj : j < M.E.lay.length := by omega
  obtain ⟨x, hx⟩ : ∃ x, M.E.lay[j]? = some x := ⟨_, List.getElem?_eq_getElem hj⟩
  rw [show cellD M.E.lay j = x by simp [cellD, h1, h2, List.getD_eq_getElem?_getD, hx]]
  obtain ⟨b, off, hA, hX, hcl⟩ := hst.lay.2 (by omega)
  have hc : ∀ i u, (cellCells x)[i]? = some u → w.cell? ⟨b, off + j * 6 + i, none⟩ = some u := fun i u hi => by
    have hi6 : i < 6 := by have := (List.getElem?_eq_some_iff.1 hi).1; simpa [cellCells] using this
    have h := hcl (j * 6 + i) u ((flat_get cellCells 6 cellCells_length M.E.lay j i x hx hi6).trans hi)
    rw [← Nat.add_assoc] at h
    exact h
  have c0 := hc 0 _ rfl
  have c1 := hc 1 _ rfl
  have c2 := hc 2 _ rfl
  have c3 := hc 3 _ rfl
  have c4 := hc 4 _ rfl
  have c5 := hc 5 _ rfl
  simp only [Nat.add_zero] at c0
  rw [hA] at m8
  have hbw : b < w.heap.size := Nat.lt_of_lt_of_le hX.1 (Nat.le_trans h.k0 h.kw)
  have hj' : (j : Int) < M.E.lay.length := by omega
  clear h hst hcl hc hX h2 hx
  generalize M.E.lay.length = n at *
  go_enter Tryd.func96, Tryd.ntmps96
  go_wp2
  exact bodyPost_ret (v := .agg #[.string x.path, .int .i64 x.kind, .bool x.retain, .int .i64 x.init, .int .i64 x.len, .int .i64 x.block]) (by simp [results, Tryd.results96, go_sem]) rfl ⟨rfl, by repeat (first | (with_reducible exact Below.refl _ _) | (with_reducible refine Below.setCell ?_ (by first | omega | (simp; done) | (simp; omega)) _) | (with_reducible refine Below.drew ?_) | (with_reducible refine Below.alloc ?_ (by first | omega | (simp; done) | (simp; omega)) _))⟩
end Go.Proofs.YtngobbbinacomaaDoor
