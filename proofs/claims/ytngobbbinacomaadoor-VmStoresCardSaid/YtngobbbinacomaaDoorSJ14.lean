/- Chapter 14: the code of VmStores: it is sound; what its runs leave. -/
import Derived.Test.YtngobbbinacomaaDoorRN14
namespace Go.Proofs.YtngobbbinacomaaDoor
open Go.RowKit Go.Proofs.YtngobbbinacomaaDoor.c11 Go.Proofs.YtngobbbinacomaaDoor.c10
set_option linter.unusedVariables false
set_option linter.unusedSimpArgs false

/-- The kind of a cell. -/
def stoK (k : Int) : Int := (cellD (cellsOf (symsP true)) k).kind
/-- The bytes of reading some, converting, storing. -/
def stoB : List (Int × Int) → List Int
  | [] => []
  | (p, k) :: l => 24 :: p :: 23 :: stoK k :: 4 :: k :: stoB l
theorem stoB_add (l : List (Int × Int)) (p k : Int) : stoB (l ++ [(p, k)]) = stoB l ++ [24, p, 23, stoK k, 4, k] := by
  induction l with
  | nil => rfl
  | cons x l ih => simp [stoB, ih]
theorem stoB_len (l : List (Int × Int)) : (stoB l).length = 6 * l.length := by
  induction l with
  | nil => rfl
  | cons x l ih => simp [stoB, ih]; omega
def stoO : Int → List (Int × Int) → List Ins
  | a, [] => [(a, a + 1, 0, 0, 0)]
  | a, (p, k) :: l => (a, a + 2, 24, p, 0) :: (a + 2, a + 2 + 2, 23, stoK k, 0) :: (a + 2 + 2, a + 2 + 2 + 2, 4, k, 0) :: stoO (a + 2 + 2 + 2) l
theorem stoO_len (l : List (Int × Int)) : ∀ a, (stoO a l).length = 3 * l.length + 1 := by
  induction l with
  | nil => intro a; rfl
  | cons x l ih => intro a; simp [stoO, ih]; omega
def stoT : List (Int × Int) → List (Option (List Int))
  | [] => [some []]
  | (p, k) :: l => some [] :: some [5] :: some [stoK k] :: stoT l
def Spots (l : List (Int × Int)) : Prop := ∀ x ∈ l, (0 ≤ x.1 ∧ x.1 < 4) ∧ 0 ≤ x.2 ∧ x.2 < 21
theorem stoK_ok (k : Int) (h : 0 ≤ k ∧ k < 21) : 1 ≤ stoK k ∧ stoK k ≤ 6 := by
  have hd : (List.range 21).all (fun i => decide (1 ≤ stoK i) && decide (stoK i ≤ 6)) = true := by kernel_rfl
  obtain ⟨i, rfl⟩ := Int.eq_ofNat_of_zero_le h.1
  have := List.all_eq_true.1 hd i (List.mem_range.2 (by omega))
  simpa using this
theorem isVal_ok (k : Int) (h : 1 ≤ k ∧ k ≤ 6) : isVal k = true := by
  rcases (show k = 1 ∨ k = 2 ∨ k = 3 ∨ k = 4 ∨ k = 5 ∨ k = 6 by omega) with rfl | rfl | rfl | rfl | rfl | rfl <;> rfl
theorem stoB_small (l : List (Int × Int)) (h : Spots l) : ∀ x ∈ stoB l ++ [0], 0 ≤ x ∧ x < 256 := by
  induction l with
  | nil => intro x hx; simp [stoB] at hx; omega
  | cons y l ih =>
    intro x hx
    have hy := h y (List.mem_cons_self ..)
    have hk := stoK_ok y.2 hy.2
    simp only [stoB, List.cons_append, List.mem_cons] at hx
    rcases hx with rfl | rfl | rfl | rfl | rfl | rfl | hx
    · omega
    · omega
    · omega
    · omega
    · omega
    · omega
    · exact ih (fun z hz => h z (List.mem_cons_of_mem _ hz)) x hx
theorem stos_reads (l : List (Int × Int)) : ∀ pre : List Int, Reads (pre ++ (stoB l ++ [0])) pre.length (stoO pre.length l) := by
  induction l with
  | nil =>
    intro pre
    refine .more _ _ _ (by simp [stoB]; omega) (rd_one pre [] 0 (by decide) (by decide) (by decide)) (.done _ (by simp [stoB]))
  | cons x l ih =>
    obtain ⟨p, k⟩ := x
    intro pre
    have e1 := rd_two pre (23 :: stoK k :: 4 :: k :: (stoB l ++ [0])) 24 p (by decide) (by decide) (by decide)
    have e2 := rd_two (pre ++ [24, p]) (4 :: k :: (stoB l ++ [0])) 23 (stoK k) (by decide) (by decide) (by decide)
    have e3 := rd_two (pre ++ [24, p, 23, stoK k]) (stoB l ++ [0]) 4 k (by decide) (by decide) (by decide)
    have e4 := ih (pre ++ [24, p, 23, stoK k, 4, k])
    have c2 : ((pre ++ [24, p]).length : Int) = pre.length + 2 := by simp
    have c3 : ((pre ++ [24, p, 23, stoK k]).length : Int) = pre.length + 2 + 2 := by simp; omega
    have c4 : ((pre ++ [24, p, 23, stoK k, 4, k]).length : Int) = pre.length + 2 + 2 + 2 := by simp; omega
    rw [c2, show (pre ++ [24, p]) ++ 23 :: stoK k :: (4 :: k :: (stoB l ++ [0])) = pre ++ (stoB ((p, k) :: l) ++ [0]) by simp [stoB]] at e2
    rw [c3, show (pre ++ [24, p, 23, stoK k]) ++ 4 :: k :: (stoB l ++ [0]) = pre ++ (stoB ((p, k) :: l) ++ [0]) by simp [stoB]] at e3
    rw [c4, show (pre ++ [24, p, 23, stoK k, 4, k]) ++ (stoB l ++ [0]) = pre ++ (stoB ((p, k) :: l) ++ [0]) by simp [stoB]] at e4
    have hl : ((pre ++ (stoB ((p, k) :: l) ++ [0])).length : Int) = pre.length + 6 + (stoB l ++ [0]).length := by simp [stoB]; omega
    exact .more _ _ _ (by rw [hl]; omega) e1 (.more _ _ _ (by simp only []; rw [hl]; omega) e2 (.more _ _ _ (by simp only []; rw [hl]; omega) e3 e4))
theorem cells21 : (cellsOf (symsP true)).length = 21 := by kernel_rfl
theorem stos_straight (l : List (Int × Int)) (h : Spots l) : ∀ a, Straight 2 1 (cellsOf (symsP true)) a [] (stoO a l) (stoT l) := by
  induction l with
  | nil => intro a; exact .last a [] _ (by omega) (by decide)
  | cons x l ih =>
    obtain ⟨p, k⟩ := x
    intro a
    have hx := h (p, k) (List.mem_cons_self ..)
    simp only at hx
    have hk := stoK_ok k hx.2
    have hkn : ((stoK k).toNat : Int) = stoK k := by omega
    have hkk : (cellD (cellsOf (symsP true)) (k.toNat : Int)).kind = stoK k := by rw [show ((k.toNat : Nat) : Int) = k by omega]; rfl
    have hkm : (cellD (cellsOf (symsP true)) (max k 0)).kind = stoK k := by rw [show max k 0 = k by omega]; rfl
    refine .step (a, a + 2, 24, p, 0) [] [5] _ _ (by simp only []; omega) (by simp only []; decide) (by simp only []; omega) (by decide) (by simp [bearsB]; omega) (by simp [doesP, does0, takesN, putsP]) ?_
    refine .step (a + 2, a + 2 + 2, 23, stoK k, 0) [5] [stoK k] _ _ (by simp only []; omega) (by simp only []; decide) (by simp only []; omega) (by decide) (by simp [bearsB, hkn, isVal_ok _ hk]) (by simp [doesP, does1, takesN, hkn]) ?_
    exact .step (a + 2 + 2, a + 2 + 2 + 2, 4, k, 0) [stoK k] [] _ _ (by simp only []; omega) (by simp only []; decide) (by simp only []; omega) (by simp) (by simp [bearsB, cells21]; omega) (by simp only [doesP, does1, takesN]; simp [hkm]) (ih (fun z hz => h z (List.mem_cons_of_mem _ hz)) _)
theorem stos_fine (l : List (Int × Int)) (h : Spots l) (hl : l.length ≤ 16) : Fine (cellsOf (symsP true)) (stoB l ++ [0]) := by
  have hn := stoB_len l
  refine fine_straight (stoB_small l h) (by simp; omega) (stos_reads l []) (stos_straight l h 0) (by rw [stoO_len]; simp; omega) ?_
  have : ∀ a, ∀ o ∈ stoO a l, o.2.2.1 ≠ 20 := by
    clear h hl hn
    induction l with
    | nil => intro a o ho; simp [stoO] at ho; subst ho; simp
    | cons x l ih =>
      intro a o ho
      simp only [stoO, List.mem_cons] at ho
      rcases ho with rfl | rfl | rfl | ho
      · simp
      · simp
      · simp
      · exact ih _ o ho
  exact this 0
/-- What is stored. -/
def stoS (E : Env) : List (Int × Int) → List Int → List Int
  | [], C => C
  | (p, k) :: l, C => stoS E l (C.set k.toNat (wrapK (stoK k) (wrapK 5 (inD E p))))
theorem stoS_add (E : Env) (p k : Int) (l : List (Int × Int)) : ∀ C, stoS E (l ++ [(p, k)]) C = (stoS E l C).set k.toNat (wrapK (stoK k) (wrapK 5 (inD E p))) := by
  induction l with
  | nil => intro C; rfl
  | cons x l ih => intro C; simp only [List.cons_append, stoS]; rw [ih]
theorem stoS_len (E : Env) (l : List (Int × Int)) : ∀ C, (stoS E l C).length = C.length := by
  induction l with
  | nil => intro C; rfl
  | cons x l ih => intro C; simp only [stoS]; rw [ih]; simp
theorem stos_exec (E : Env) (l : List (Int × Int)) (hp : Spots l) : ∀ (pre : List Int) (f : Nat) (S : St), S.cells.length = 21 → 3 * l.length < f → 3 * l.length < S.left → S.stk = [] →
    execP E f (pre ++ (stoB l ++ [0])) pre.length S = ({ S with cells := stoS E l S.cells, left := S.left - (3 * l.length + 1), used := S.used + (3 * l.length + 1) }, 0) := by
  induction l with
  | nil =>
    intro pre f S hC hf hS hst
    obtain ⟨f, rfl⟩ : ∃ g, f = g + 1 := ⟨f - 1, by omega⟩
    rw [show pre ++ (stoB [] ++ [0]) = pre ++ 0 :: [] by simp [stoB]]
    rw [ex_end (rd_one pre [] 0 (by decide) (by decide) (by decide)) (by simp at hS; omega)]
    rfl
  | cons x l ih =>
    obtain ⟨p, k⟩ := x
    intro pre f S hC hf hS hst
    have hx := hp (p, k) (List.mem_cons_self ..)
    simp only at hx
    simp only [List.length_cons] at hf hS
    obtain ⟨f, rfl⟩ : ∃ g, f = g + 1 + 1 + 1 := ⟨f - 3, by omega⟩
    have e1 := rd_two pre (23 :: stoK k :: 4 :: k :: (stoB l ++ [0])) 24 p (by decide) (by decide) (by decide)
    have e2 := rd_two (pre ++ [24, p]) (4 :: k :: (stoB l ++ [0])) 23 (stoK k) (by decide) (by decide) (by decide)
    have e3 := rd_two (pre ++ [24, p, 23, stoK k]) (stoB l ++ [0]) 4 k (by decide) (by decide) (by decide)
    have c2 : ((pre ++ [24, p]).length : Int) = pre.length + 2 := by simp
    have c3 : ((pre ++ [24, p, 23, stoK k]).length : Int) = pre.length + 2 + 2 := by simp; omega
    have c4 : ((pre ++ [24, p, 23, stoK k, 4, k]).length : Int) = pre.length + 2 + 2 + 2 := by simp; omega
    rw [show pre ++ 24 :: p :: (23 :: stoK k :: 4 :: k :: (stoB l ++ [0])) = pre ++ (stoB ((p, k) :: l) ++ [0]) by simp [stoB]] at e1
    rw [c2, show (pre ++ [24, p]) ++ 23 :: stoK k :: (4 :: k :: (stoB l ++ [0])) = pre ++ (stoB ((p, k) :: l) ++ [0]) by simp [stoB]] at e2
    rw [c3, show (pre ++ [24, p, 23, stoK k]) ++ 4 :: k :: (stoB l ++ [0]) = pre ++ (stoB ((p, k) :: l) ++ [0]) by simp [stoB]] at e3
    have hip : isPort p = true := by simp [isPort]; omega
    have hat : isAt S.cells.length k = true := by simp [isAt, hC]; omega
    obtain ⟨x, hx5⟩ : ∃ x, wrapK 5 (inD E p) = x := ⟨_, rfl⟩
    rw [ex_op e1 (by omega) (by decide) (S1 := { S with left := S.left - 1, used := S.used + 1, stk := [(5, x)] }) (x := 0) (by simp [doP, hip, pushS, hst, hx5]), if_pos rfl]
    rw [ex_op e2 (by simp only []; omega) (by decide) (S1 := { S with left := S.left - 1 - 1, used := S.used + 1 + 1, stk := [(stoK k, wrapK (stoK k) x)] }) (x := 0) (by simp [doP, memoryP, operateP, popS, pushS]), if_pos rfl]
    rw [ex_op e3 (by simp only []; omega) (by decide) (S1 := { S with cells := S.cells.set k.toNat (wrapK (stoK k) x), left := S.left - 1 - 1 - 1, used := S.used + 1 + 1 + 1 }) (x := 0) (by simp [doP, memoryP, popS, hat, hst]), if_pos rfl]
    have h := ih (fun z hz => hp z (List.mem_cons_of_mem _ hz)) (pre ++ [24, p, 23, stoK k, 4, k]) f { S with cells := S.cells.set k.toNat (wrapK (stoK k) x), left := S.left - 1 - 1 - 1, used := S.used + 1 + 1 + 1 } (by simp [hC]) (by omega) (by simp only []; omega) hst
    rw [c4, show (pre ++ [24, p, 23, stoK k, 4, k]) ++ (stoB l ++ [0]) = pre ++ (stoB ((p, k) :: l) ++ [0]) by simp [stoB]] at h
    rw [h]
    simp only [stoS, List.length_cons, hx5]
    congr 2 <;> omega
end Go.Proofs.YtngobbbinacomaaDoor
