/- Chapter 14: the code of VmOuts: it is sound; what its runs leave. -/
import Derived.Test.YtngobbbinacomaaDoorRN14
namespace Go.Proofs.YtngobbbinacomaaDoor
open Go.RowKit Go.Proofs.YtngobbbinacomaaDoor.c11 Go.Proofs.YtngobbbinacomaaDoor.c10
set_option linter.unusedVariables false
set_option linter.unusedSimpArgs false

/-- The bytes of reading some, publishing some. -/
def outB : List (Int × Int) → List Int
  | [] => []
  | (p, q) :: l => 24 :: p :: 25 :: q :: outB l
theorem outB_add (l : List (Int × Int)) (p q : Int) : outB (l ++ [(p, q)]) = outB l ++ [24, p, 25, q] := by
  induction l with
  | nil => rfl
  | cons x l ih => simp [outB, ih]
theorem outB_len (l : List (Int × Int)) : (outB l).length = 4 * l.length := by
  induction l with
  | nil => rfl
  | cons x l ih => simp [outB, ih]; omega
def outO : Int → List (Int × Int) → List Ins
  | a, [] => [(a, a + 1, 0, 0, 0)]
  | a, (p, q) :: l => (a, a + 2, 24, p, 0) :: (a + 2, a + 2 + 2, 25, q, 0) :: outO (a + 2 + 2) l
theorem outO_len (l : List (Int × Int)) : ∀ a, (outO a l).length = 2 * l.length + 1 := by
  induction l with
  | nil => intro a; rfl
  | cons x l ih => intro a; simp [outO, ih]; omega
def outT : List (Int × Int) → List (Option (List Int))
  | [] => [some []]
  | x :: l => some [] :: some [5] :: outT l
def Ports (l : List (Int × Int)) : Prop := ∀ x ∈ l, (0 ≤ x.1 ∧ x.1 < 4) ∧ 0 ≤ x.2 ∧ x.2 < 4
theorem outB_small (l : List (Int × Int)) (h : Ports l) : ∀ x ∈ outB l ++ [0], 0 ≤ x ∧ x < 256 := by
  induction l with
  | nil => intro x hx; simp [outB] at hx; omega
  | cons y l ih =>
    intro x hx
    have hy := h y (List.mem_cons_self ..)
    simp only [outB, List.cons_append, List.mem_cons] at hx
    rcases hx with rfl | rfl | rfl | rfl | hx
    · omega
    · omega
    · omega
    · omega
    · exact ih (fun z hz => h z (List.mem_cons_of_mem _ hz)) x hx
theorem outs_reads (l : List (Int × Int)) : ∀ pre : List Int, Reads (pre ++ (outB l ++ [0])) pre.length (outO pre.length l) := by
  induction l with
  | nil =>
    intro pre
    refine .more _ _ _ (by simp [outB]; omega) (rd_one pre [] 0 (by decide) (by decide) (by decide)) (.done _ (by simp [outB]))
  | cons x l ih =>
    obtain ⟨p, q⟩ := x
    intro pre
    have e1 := rd_two pre (25 :: q :: (outB l ++ [0])) 24 p (by decide) (by decide) (by decide)
    have e2 := rd_two (pre ++ [24, p]) (outB l ++ [0]) 25 q (by decide) (by decide) (by decide)
    have e3 := ih (pre ++ [24, p, 25, q])
    have c2 : ((pre ++ [24, p]).length : Int) = pre.length + 2 := by simp
    have c3 : ((pre ++ [24, p, 25, q]).length : Int) = pre.length + 2 + 2 := by simp; omega
    rw [c2, show (pre ++ [24, p]) ++ 25 :: q :: (outB l ++ [0]) = pre ++ (outB ((p, q) :: l) ++ [0]) by simp [outB]] at e2
    rw [c3, show (pre ++ [24, p, 25, q]) ++ (outB l ++ [0]) = pre ++ (outB ((p, q) :: l) ++ [0]) by simp [outB]] at e3
    have hl : ((pre ++ (outB ((p, q) :: l) ++ [0])).length : Int) = pre.length + 4 + (outB l ++ [0]).length := by simp [outB]; omega
    exact .more _ _ _ (by rw [hl]; omega) e1 (.more _ _ _ (by simp only []; rw [hl]; omega) e2 e3)
theorem outs_straight (cells : List CellD) (l : List (Int × Int)) (h : Ports l) : ∀ a, Straight 2 1 cells a [] (outO a l) (outT l) := by
  induction l with
  | nil => intro a; exact .last a [] _ (by omega) (by decide)
  | cons x l ih =>
    obtain ⟨p, q⟩ := x
    intro a
    have hx := h (p, q) (List.mem_cons_self ..)
    simp only at hx
    refine .step (a, a + 2, 24, p, 0) [] [5] _ _ (by simp only []; omega) (by simp only []; decide) (by simp only []; omega) (by decide) (by simp [bearsB]; omega) (by simp [doesP, does0, takesN, putsP]) ?_
    exact .step (a + 2, a + 2 + 2, 25, q, 0) [5] [] _ _ (by simp only []; omega) (by simp only []; decide) (by simp only []; omega) (by decide) (by simp [bearsB]; omega) (by simp [doesP, does1, takesN]) (ih (fun z hz => h z (List.mem_cons_of_mem _ hz)) _)
theorem outs_fine (cells : List CellD) (l : List (Int × Int)) (h : Ports l) (hl : l.length ≤ 16) : Fine cells (outB l ++ [0]) := by
  have hn := outB_len l
  refine fine_straight (outB_small l h) (by simp; omega) (outs_reads l []) (outs_straight cells l h 0) (by rw [outO_len]; simp; omega) ?_
  have : ∀ a, ∀ o ∈ outO a l, o.2.2.1 ≠ 20 := by
    clear h hl hn
    induction l with
    | nil => intro a o ho; simp [outO] at ho; subst ho; simp
    | cons x l ih =>
      intro a o ho
      simp only [outO, List.mem_cons] at ho
      rcases ho with rfl | rfl | ho
      · simp
      · simp
      · exact ih _ o ho
  exact this 0
/-- What is published. -/
def outS (E : Env) : List (Int × Int) → St → St
  | [], S => S
  | (p, q) :: l, S => outS E l (setOut S q (wrapK 5 (inD E p)))
theorem outS_add (E : Env) (p q : Int) (l : List (Int × Int)) : ∀ S, outS E (l ++ [(p, q)]) S = setOut (outS E l S) q (wrapK 5 (inD E p)) := by
  induction l with
  | nil => intro S; rfl
  | cons x l ih => intro S; simp only [List.cons_append, outS]; rw [ih]
theorem setOut_bud (S : St) (q x : Int) (a b : Nat) : setOut { S with left := a, used := b } q x = { setOut S q x with left := a, used := b } := by
  unfold setOut; split <;> (try split) <;> (try split) <;> rfl
theorem outS_bud (E : Env) (l : List (Int × Int)) : ∀ (S : St) (a b : Nat), outS E l { S with left := a, used := b } = { outS E l S with left := a, used := b } := by
  induction l with
  | nil => intro S a b; rfl
  | cons x l ih => intro S a b; simp only [outS]; rw [setOut_bud, ih]
theorem setOut_keep (S : St) (q x : Int) : (setOut S q x).left = S.left ∧ (setOut S q x).used = S.used ∧ (setOut S q x).stk = S.stk ∧ (setOut S q x).cells = S.cells := by
  unfold setOut; split <;> (try split) <;> (try split) <;> exact ⟨rfl, rfl, rfl, rfl⟩
theorem outS_keep (E : Env) (l : List (Int × Int)) : ∀ S : St, (outS E l S).left = S.left ∧ (outS E l S).used = S.used ∧ (outS E l S).stk = S.stk ∧ (outS E l S).cells = S.cells := by
  induction l with
  | nil => intro S; exact ⟨rfl, rfl, rfl, rfl⟩
  | cons x l ih =>
    intro S
    have h := ih (setOut S x.2 (wrapK 5 (inD E x.1)))
    have k := setOut_keep S x.2 (wrapK 5 (inD E x.1))
    simp only [outS]
    rw [h.1, h.2.1, h.2.2.1, h.2.2.2]
    exact k
theorem outs_exec (E : Env) (l : List (Int × Int)) (hp : Ports l) : ∀ (pre : List Int) (f : Nat) (S : St), 2 * l.length < f → 2 * l.length < S.left → S.stk = [] →
    execP E f (pre ++ (outB l ++ [0])) pre.length S = ({ outS E l S with left := S.left - (2 * l.length + 1), used := S.used + (2 * l.length + 1) }, 0) := by
  induction l with
  | nil =>
    intro pre f S hf hS hst
    obtain ⟨f, rfl⟩ : ∃ g, f = g + 1 := ⟨f - 1, by omega⟩
    rw [show pre ++ (outB [] ++ [0]) = pre ++ 0 :: [] by simp [outB]]
    rw [ex_end (rd_one pre [] 0 (by decide) (by decide) (by decide)) (by simp at hS; omega)]
    rfl
  | cons x l ih =>
    obtain ⟨p, q⟩ := x
    intro pre f S hf hS hst
    have hx := hp (p, q) (List.mem_cons_self ..)
    simp only at hx
    simp only [List.length_cons] at hf hS
    obtain ⟨f, rfl⟩ : ∃ g, f = g + 1 + 1 := ⟨f - 2, by omega⟩
    have e1 := rd_two pre (25 :: q :: (outB l ++ [0])) 24 p (by decide) (by decide) (by decide)
    have e2 := rd_two (pre ++ [24, p]) (outB l ++ [0]) 25 q (by decide) (by decide) (by decide)
    have c2 : ((pre ++ [24, p]).length : Int) = pre.length + 2 := by simp
    have c3 : ((pre ++ [24, p, 25, q]).length : Int) = pre.length + 2 + 2 := by simp; omega
    rw [c2, show (pre ++ [24, p]) ++ 25 :: q :: (outB l ++ [0]) = pre ++ (outB ((p, q) :: l) ++ [0]) by simp [outB]] at e2
    rw [show pre ++ 24 :: p :: (25 :: q :: (outB l ++ [0])) = pre ++ (outB ((p, q) :: l) ++ [0]) by simp [outB]] at e1
    have hip : isPort p = true := by simp [isPort]; omega
    have hiq : isPort q = true := by simp [isPort]; omega
    rw [ex_op e1 (by omega) (by decide) (S1 := { S with left := S.left - 1, used := S.used + 1, stk := [(5, wrapK 5 (inD E p))] }) (x := 0) (by simp [doP, hip, pushS, hst]), if_pos rfl]
    rw [ex_op e2 (by simp only []; omega) (by decide) (S1 := { setOut S q (wrapK 5 (inD E p)) with left := S.left - 1 - 1, used := S.used + 1 + 1 }) (x := 0) ?_, if_pos rfl]
    · have h := ih (fun z hz => hp z (List.mem_cons_of_mem _ hz)) (pre ++ [24, p, 25, q]) f { setOut S q (wrapK 5 (inD E p)) with left := S.left - 1 - 1, used := S.used + 1 + 1 } (by omega) (by simp only []; omega) (by rw [show ({ setOut S q (wrapK 5 (inD E p)) with left := S.left - 1 - 1, used := S.used + 1 + 1 } : St).stk = (setOut S q (wrapK 5 (inD E p))).stk from rfl, (setOut_keep _ _ _).2.2.1]; exact hst)
      rw [c3, show (pre ++ [24, p, 25, q]) ++ (outB l ++ [0]) = pre ++ (outB ((p, q) :: l) ++ [0]) by simp [outB]] at h
      rw [h, outS_bud]
      simp only [outS, List.length_cons]
      congr 2 <;> omega
    · simp only [doP, if_neg (show ¬ (25 : Int) = 1 by decide), if_neg (show ¬ (25 : Int) = 2 by decide), if_neg (show ¬ (25 : Int) = 24 by decide), if_pos, if_pos hiq]
      have e : popS { S with left := S.left - 1 - 1, used := S.used + 1 + 1, stk := [(5, wrapK 5 (inD E p))] } = ((5, wrapK 5 (inD E p)), { S with left := S.left - 1 - 1, used := S.used + 1 + 1, stk := [] }) := popS_some (l := []) rfl
      rw [e]
      have e4 : ({ S with left := S.left - 1 - 1, used := S.used + 1 + 1, stk := [] } : St) = { S with left := S.left - 1 - 1, used := S.used + 1 + 1 } := by rw [← hst]
      simp only [e4, setOut_bud]
end Go.Proofs.YtngobbbinacomaaDoor
