/- Chapter 14: VmIndex: its variables may be, its code is sound; what its run leaves. -/
import Derived.Test.YtngobbbinacomaaDoorRN14
namespace Go.Proofs.YtngobbbinacomaaDoor
open Go.RowKit Go.Proofs.YtngobbbinacomaaDoor.c11 Go.Proofs.YtngobbbinacomaaDoor.c10
set_option linter.unusedVariables false
set_option linter.unusedSimpArgs false

def sIx : SymD := ⟨{ data := #[120] }, 5, 0, 0, [], false, [4]⟩
def sIa (n : Nat) : SymD := ⟨{ data := #[97] }, 7, 5, n, [], false, List.replicate n 0⟩
def sIy : SymD := ⟨{ data := #[121] }, 5, 0, 0, [], false, [6]⟩
/-- VmIndex' variables. -/
def symsX (n : Nat) : List SymD := [sIx, sIa n, sIy]
def begX (n : Nat) : List Int := 4 :: (List.replicate n 0 ++ [6])
def Eight (n : Nat) : Prop := n = 1 ∨ n = 2 ∨ n = 3 ∨ n = 4 ∨ n = 5 ∨ n = 6 ∨ n = 7 ∨ n = 8
theorem symsX_mem {n : Nat} {s : SymD} (h : s ∈ symsX n) : s = sIx ∨ s = sIa n ∨ s = sIy := by simpa [symsX] using h
theorem symsX_ok (n : Nat) (hn : Eight n) : ∀ s ∈ symsX n, s.Ok := by
  intro s hs
  rcases symsX_mem hs with rfl | rfl | rfl
  · exact ⟨by decide, by decide, (fun f hf => by cases hf), by decide⟩
  · refine ⟨by show (1 : Nat) ≤ 1000000; decide, by show (0 : Nat) ≤ 1000000; decide, (fun f hf => by cases hf), ?_⟩
    simp only [sIa, List.length_replicate]
    unfold Eight at hn; omega
  · exact ⟨by decide, by decide, (fun f hf => by cases hf), by decide⟩
theorem symsX_size (n : Nat) (hn : Eight n) : ∀ s ∈ symsX n, s.size ≤ 64 := by
  intro s hs
  rcases hn with rfl | rfl | rfl | rfl | rfl | rfl | rfl | rfl <;> (rcases symsX_mem hs with rfl | rfl | rfl <;> decide)
theorem symsX_begin (n : Nat) (hn : Eight n) : ((cellsOf (symsX n)).map CellD.init) = begX n := by
  rcases hn with rfl | rfl | rfl | rfl | rfl | rfl | rfl | rfl <;> kernel_rfl
theorem symsX_cells (n : Nat) (hn : Eight n) : (cellsOf (symsX n)).length = n + 2 := by
  rcases hn with rfl | rfl | rfl | rfl | rfl | rfl | rfl | rfl <;> kernel_rfl
theorem symsX_lens (n : Nat) (hn : Eight n) : ∀ c ∈ cellsOf (symsX n), c.len ≤ 1000000 := by
  intro c hc
  have h : (cellsOf (symsX n)).all (fun c => decide (c.len ≤ 1000000)) = true := by
    rcases hn with rfl | rfl | rfl | rfl | rfl | rfl | rfl | rfl <;> kernel_rfl
  exact of_decide_eq_true (List.all_eq_true.1 h c hc)
theorem symsX_arr (n : Nat) (hn : Eight n) : (cellD (cellsOf (symsX n)) 1).kind = 5 ∧ (cellD (cellsOf (symsX n)) 1).len = n := by
  rcases hn with rfl | rfl | rfl | rfl | rfl | rfl | rfl | rfl <;> exact ⟨by kernel_rfl, by kernel_rfl⟩
theorem symsX_good (n : Nat) (hn : Eight n) : GoodSyms (symsX n) := by
  refine ⟨by show (3 : Nat) ≤ 12; decide, symsX_ok n hn, ?_, ?_, ?_, ?_, ?_, ?_, ?_, by simp [symsX, keptN, sIx, sIa, sIy]⟩
  · intro s hs
    rcases symsX_mem hs with rfl | rfl | rfl <;> simp [Letter, sIx, sIa, sIy]
  · intro s hs
    rcases symsX_mem hs with rfl | rfl | rfl
    · simp [TypeOk, sIx]
    · have h1 : 1 ≤ n ∧ n ≤ 8 := by unfold Eight at hn; omega
      exact Or.inr ⟨rfl, by show (1 : Int) ≤ 5; decide, by show (5 : Int) ≤ 6; decide, by show (1 : Int) ≤ n; omega, by show (n : Int) ≤ 32; omega⟩
    · simp [TypeOk, sIy]
  · intro s hs
    rcases symsX_mem hs with rfl | rfl | rfl <;> rfl
  · intro s hs
    rcases hn with rfl | rfl | rfl | rfl | rfl | rfl | rfl | rfl <;> (rcases symsX_mem hs with rfl | rfl | rfl <;> decide)
  · intro s hs k x hx
    have hk : ∀ z ∈ symsX n, (List.range z.init.length).all (fun k => decide (wrapK (kindOf z.kind z.elem z.fields k) (z.init.getD k 0) = z.init.getD k 0)) = true := by
      intro z hz
      rcases hn with rfl | rfl | rfl | rfl | rfl | rfl | rfl | rfl <;> (rcases symsX_mem hz with rfl | rfl | rfl <;> kernel_rfl)
    have hkl := (List.getElem?_eq_some_iff.1 hx).1
    have h := of_decide_eq_true (List.all_eq_true.1 (hk s hs) k (List.mem_range.2 hkl))
    rw [show s.init.getD k 0 = x by rw [List.getD, hx]; rfl] at h
    exact h
  · have hd : (List.range 3).all (fun i => (List.range i).all fun j => decide (((symsX 1).map SymD.name)[i]? ≠ ((symsX 1).map SymD.name)[j]?)) = true := by decide
    have hm : (symsX n).map SymD.name = (symsX 1).map SymD.name := rfl
    intro i j si sj hi hj hji e
    have hi3 : i < 3 := (List.getElem?_eq_some_iff.1 hi).1
    have h1 := List.all_eq_true.1 (List.all_eq_true.1 hd i (List.mem_range.2 hi3)) j (List.mem_range.2 hji)
    have h2 := of_decide_eq_true h1
    rw [← hm, List.getElem?_map, List.getElem?_map, hi, hj] at h2
    exact h2 (by simp [e])
  · intro i hi
    have hd : (List.range 4).all (fun i => decide (sizesN ((symsX n).take i) ≤ 64)) = true := by
      rcases hn with rfl | rfl | rfl | rfl | rfl | rfl | rfl | rfl <;> decide
    exact of_decide_eq_true (List.all_eq_true.1 hd i (List.mem_range.2 (Nat.lt_succ_of_le hi)))

/-- VmIndex' code. -/
def ixC : List Int := [24, 0, 24, 1, 6, 1, 24, 0, 5, 1, 25, 0, 0]
theorem ixC_read : (opsL ixC).2 = 0 := by kernel_rfl
theorem ixC_cert (n : Nat) (hn : Eight n) : ∃ T, Cert 0 1 (cellsOf (symsX n)) (opsL ixC).1 T := by
  refine ⟨[some [], some [5], some [5, 5], some [], some [5], some [5], some []], certB_ok ?_⟩
  rcases hn with rfl | rfl | rfl | rfl | rfl | rfl | rfl | rfl <;> kernel_rfl
theorem ixC_calls : ∀ o ∈ (opsL ixC).1, o.2.2.1 ≠ 20 := by
  have h : ((opsL ixC).1.all fun o => decide (o.2.2.1 ≠ 20)) = true := by kernel_rfl
  intro o ho
  exact of_decide_eq_true (List.all_eq_true.1 h o ho)
theorem ix_reads : rdL ixC 0 = ((0, 2, 24, 0, 0), 0) ∧ rdL ixC 2 = ((2, 4, 24, 1, 0), 0) ∧ rdL ixC 4 = ((4, 6, 6, 1, 0), 0) ∧ rdL ixC 6 = ((6, 8, 24, 0, 0), 0) ∧ rdL ixC 8 = ((8, 10, 5, 1, 0), 0) ∧ rdL ixC 10 = ((10, 12, 25, 0, 0), 0) ∧ rdL ixC 12 = ((12, 13, 0, 0, 0), 0) := ⟨rfl, rfl, rfl, rfl, rfl, rfl, rfl⟩
theorem begX_len (n : Nat) : (begX n).length = n + 2 := by simp [begX]
theorem ix_in (n : Nat) (hn : Eight n) (SA Ca La : Option Addr) (SC Cc c f g Lc k : Nat) (v : Int) (hk : k < n) (hi : wrapK 5 (k : Int) = k) (hv : wrapK 5 v = v) :
    execP (envC SA SC (symsX n) [] Ca Cc ixC c f g k v 0 0 0 La Lc) 21 ixC 0 ⟨begX n, 0, 0, 0, 0, 20, 0, []⟩ = (⟨(begX n).set (1 + k) v, v, 0, 0, 0, 13, 7, []⟩, 0) := by
  obtain ⟨r0, r2, r4, r6, r8, r10, r12⟩ := ix_reads
  have ha := symsX_arr n hn
  have hx : ∀ m : Nat, m = n + 2 → indexP (envC SA SC (symsX n) [] Ca Cc ixC c f g k v 0 0 0 La Lc) m 1 (k : Int) = (1 + (k : Int), 0) := by
    intro m hm
    have e1 : (cellD (envC SA SC (symsX n) [] Ca Cc ixC c f g k v 0 0 0 La Lc).lay 1).len = n := ha.2
    rw [indexP, e1, if_neg]
    simp [isAt, hm]
    omega
  have hkk : (cellD (envC SA SC (symsX n) [] Ca Cc ixC c f g k v 0 0 0 La Lc).lay 1).kind = 5 := ha.1
  have h1k : (1 + (k : Int)).toNat = 1 + k := by omega
  rw [ex_op r0 (by simp) (by decide) (S1 := ⟨begX n, 0, 0, 0, 0, 19, 1, [(5, k)]⟩) (x := 0) (by simp [doP, isPort, pushS, inD, envC, hi]), if_pos rfl]
  rw [ex_op r2 (by simp) (by decide) (S1 := ⟨begX n, 0, 0, 0, 0, 18, 2, [(5, k), (5, v)]⟩) (x := 0) (by simp [doP, isPort, pushS, inD, envC, hv]), if_pos rfl]
  rw [ex_op r4 (by simp) (by decide) (S1 := ⟨(begX n).set (1 + k) v, 0, 0, 0, 0, 17, 3, []⟩) (x := 0) (by simp [doP, memoryP, popS, hx _ (begX_len n), h1k]), if_pos rfl]
  rw [ex_op r6 (by simp) (by decide) (S1 := ⟨(begX n).set (1 + k) v, 0, 0, 0, 0, 16, 4, [(5, k)]⟩) (x := 0) (by simp [doP, isPort, pushS, inD, envC, hi]), if_pos rfl]
  have hset : ((begX n).set (1 + k) v).getD (1 + k) 0 = v := by
    rw [List.getD_eq_getElem?_getD, List.getElem?_set_self (by rw [begX_len]; omega)]; rfl
  have hsl : ((begX n).set (1 + k) v).length = n + 2 := by simp [begX_len]
  rw [ex_op r8 (by simp) (by decide) (S1 := ⟨(begX n).set (1 + k) v, 0, 0, 0, 0, 15, 5, [(5, v)]⟩) (x := 0) (by simp only [doP, memoryP, popS]; simp [hx _ hsl, h1k, hkk, pushS, begX_len, hx _ rfl]; rw [← List.getD_eq_getElem?_getD, hset]), if_pos rfl]
  rw [ex_op r10 (by simp) (by decide) (S1 := ⟨(begX n).set (1 + k) v, v, 0, 0, 0, 14, 6, []⟩) (x := 0) rfl, if_pos rfl]
  rw [ex_end r12 (by simp)]
  rfl
theorem ix_out (n : Nat) (hn : Eight n) (SA Ca La : Option Addr) (SC Cc c f g Lc : Nat) (i v : Int) (hk : i < 0 ∨ (n : Int) ≤ i) (hi : wrapK 5 i = i) (hv : wrapK 5 v = v) :
    execP (envC SA SC (symsX n) [] Ca Cc ixC c f g i v 0 0 0 La Lc) 21 ixC 0 ⟨begX n, 0, 0, 0, 0, 20, 0, []⟩ = (⟨begX n, 0, 0, 0, 0, 17, 3, []⟩, 22) := by
  obtain ⟨r0, r2, r4, r6, r8, r10, r12⟩ := ix_reads
  have ha := symsX_arr n hn
  have hx : ∀ m : Nat, indexP (envC SA SC (symsX n) [] Ca Cc ixC c f g i v 0 0 0 La Lc) m 1 i = (0, 22) := by
    intro m
    have e1 : (cellD (envC SA SC (symsX n) [] Ca Cc ixC c f g i v 0 0 0 La Lc).lay 1).len = n := ha.2
    rw [indexP, e1, if_pos]
    rcases hk with h | h
    · exact .inl h
    · exact .inr (.inl h)
  rw [ex_op r0 (by simp) (by decide) (S1 := ⟨begX n, 0, 0, 0, 0, 19, 1, [(5, i)]⟩) (x := 0) (by simp [doP, isPort, pushS, inD, envC, hi]), if_pos rfl]
  rw [ex_op r2 (by simp) (by decide) (S1 := ⟨begX n, 0, 0, 0, 0, 18, 2, [(5, i), (5, v)]⟩) (x := 0) (by simp [doP, isPort, pushS, inD, envC, hv]), if_pos rfl]
  rw [ex_op r4 (by simp) (by decide) (S1 := ⟨begX n, 0, 0, 0, 0, 17, 3, []⟩) (x := 22) (by simp [doP, memoryP, popS, hx]), if_neg (by decide)]
end Go.Proofs.YtngobbbinacomaaDoor
