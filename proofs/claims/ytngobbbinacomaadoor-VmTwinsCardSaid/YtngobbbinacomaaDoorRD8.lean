/- The document's chapters 7, 8, 9: what is checked of variables, of programs, where it is fine. -/
import Derived.Test.YtngobbbinacomaaDoorMA8
import Derived.Test.YtngobbbinacomaaDoorMA11
import Derived.Deep.DeepCutAuto
namespace Go.Proofs.YtngobbbinacomaaDoor
open Go.RowKit Go.Proofs.YtngobbbinacomaaDoor.c11
set_option linter.unusedVariables false
set_option linter.unusedSimpArgs false
attribute [local go_sem ↓] Go.wp_at_zero Go.wp_at_succ

/-- A type that may be, and is no struct. -/
def TypeOk (k e n : Int) : Prop := (k ≠ 7 ∧ k ≠ 8 ∧ 1 ≤ k ∧ k ≤ 10 ∧ e = 0 ∧ n = 0) ∨ (k = 7 ∧ 1 ≤ e ∧ e ≤ 6 ∧ 1 ≤ n ∧ n ≤ 32)

set_option maxHeartbeats 4000000 in
set_option maxRecDepth 100000 in
theorem rtype_ok (k e n : Int) (A : Option Addr) (c : Nat) (w : World) (h : TypeOk k e n) :
    Calls Tryd.prog 81 #[.agg #[.int .i64 k, .int .i64 e, .int .i64 n, .slice A 0 c]] w fun e' w' => e' = .returned (.int .i64 0) ∧ Below w.heap.size w w' := by
  have V := Lib.hid (fun u => rvalueK_any e u)
  rcases h with ⟨h7, h8, h1, h10, rfl, rfl⟩ | ⟨rfl, h1, h2, h3, h4⟩
  · have h7' : (k == 7) = false := by simpa using h7
    have h7n : (k != 7) = true := by simpa using h7
    have h8' : (k == 8) = false := by simpa using h8
    have h8n : (k != 8) = true := by simpa using h8
    have h1' : decide (k < 1) = false := decide_eq_false (by omega)
    have h10' : decide (10 < k) = false := decide_eq_false (by omega)
    clear h7 h8
    go_enter Tryd.func81, Tryd.ntmps81
    go_wp2
    all_goals go_ret
    all_goals exact ⟨rfl, (Below.refl _ w).alloc (Nat.le_refl _) _⟩
  · have hv : isVal e = true := by simp [isVal, h1, h2]
    rw [hv] at V
    have h1' : decide (n < 1) = false := decide_eq_false (by omega)
    have h10' : decide (32 < n) = false := decide_eq_false (by omega)
    clear hv
    go_enter Tryd.func81, Tryd.ntmps81
    go_wp2_with (go_at_call 57; refine (V.out _).mono ?_; rintro e _ ⟨rfl, rfl⟩)
    all_goals go_ret
    all_goals exact ⟨rfl, (Below.refl _ w).alloc (Nat.le_refl _) _⟩

/-- A name of one letter. -/
def Letter (b : ByteArray) : Prop := b = { data := #[97] } ∨ b = { data := #[98] } ∨ b = { data := #[99] } ∨ b = { data := #[105] } ∨ b = { data := #[110] } ∨ b = { data := #[116] } ∨ b = { data := #[119] } ∨ b = { data := #[120] } ∨ b = { data := #[121] }

def NameRel (w : World) (i : Value) (wr : World) : Prop := ∃ k : Nat, i = .int .i64 k ∧ k ≤ 1 ∧ wr = w
set_option maxHeartbeats 8000000 in
set_option maxRecDepth 100000 in
theorem rname_ok (b : ByteArray) (h : Letter b) (w : World) :
    Calls Tryd.prog 80 #[.string b, .int .i64 12] w fun e' w' => e' = .returned (.bool true) ∧ w = w' := by
  unfold Letter at h
  rcases h with rfl | rfl | rfl | rfl | rfl | rfl | rfl | rfl | rfl
  all_goals
    go_enter Tryd.func80, Tryd.ntmps80
    go_wp2_with fail
    go_loopw [5] (fun i wr => NameRel w i wr) (fun i _ => 1 - (intOf i).toNat)
    case atStart => exact ⟨0, rfl, by decide, rfl⟩
    case round =>
      obtain ⟨k, rfl, hk, rfl⟩ := hrel
      rcases (show k = 0 ∨ k = 1 by omega) with rfl | rfl
      · go_wp2
        go_roundw
        case rel => exact ⟨1, rfl, by decide, rfl⟩
        case measure => simp [intOf]
      · go_wp2
        go_ret
        exact ⟨rfl, rfl⟩

/-- How many cells; how many of them are kept. -/
def sizesN : List SymD → Nat
  | [] => 0
  | s :: l => s.init.length + sizesN l
def keptN : List SymD → Nat
  | [] => 0
  | s :: l => (if s.retain then s.init.length else 0) + keptN l
theorem sizesN_add (l : List SymD) (s : SymD) : sizesN (l ++ [s]) = sizesN l + s.init.length := by
  induction l with
  | nil => simp [sizesN]
  | cons x l ih => simp only [List.cons_append, sizesN, ih]; omega
theorem keptN_add (l : List SymD) (s : SymD) : keptN (l ++ [s]) = keptN l + (if s.retain then s.init.length else 0) := by
  induction l with
  | nil => simp [keptN]
  | cons x l ih => simp only [List.cons_append, keptN, ih]; omega
theorem keptN_le (l : List SymD) : keptN l ≤ sizesN l := by
  induction l with
  | nil => exact Nat.le_refl _
  | cons x l ih => simp only [keptN, sizesN]; split <;> omega

/-- Variables such as may be. -/
structure GoodSyms (l : List SymD) : Prop where
  few : l.length ≤ 12
  ok : ∀ s ∈ l, s.Ok
  name : ∀ s ∈ l, Letter s.name
  type : ∀ s ∈ l, TypeOk s.kind s.elem s.n
  flds : ∀ s ∈ l, s.fields = []
  init : ∀ s ∈ l, (s.init.length : Int) = SymD.size s ∧ s.init.length ≤ 64
  wrap : ∀ s ∈ l, ∀ k x, s.init[k]? = some x → wrapK (kindOf s.kind s.elem s.fields k) x = x
  diff : ∀ (i j : Nat) (si sj : SymD), l[i]? = some si → l[j]? = some sj → j < i → sj.name ≠ si.name
  cells : ∀ i, i ≤ l.length → sizesN (l.take i) ≤ 64
  kept : keptN l ≤ 24

end Go.Proofs.YtngobbbinacomaaDoor
