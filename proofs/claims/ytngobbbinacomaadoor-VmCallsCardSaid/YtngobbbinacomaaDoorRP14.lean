/- Chapter 14: the code of VmPorts, VmJumps, VmStacks: it is sound; what its runs leave. -/
import Derived.Test.YtngobbbinacomaaDoorRN14
import Derived.Laws.DeepNot64
namespace Go.Proofs.YtngobbbinacomaaDoor
open Go.RowKit Go.Proofs.YtngobbbinacomaaDoor.c11 Go.Proofs.YtngobbbinacomaaDoor.c10
set_option linter.unusedVariables false
set_option linter.unusedSimpArgs false

theorem own_at {w : World} {base : Nat} {e : TypeId} {g n cap : Nat} {l : List Int} (h : w.ownsRow base e 1 (.slice (some ⟨g, 0, none⟩) n cap) n (l.map (Value.int .i64))) (j : Nat) (x : Int) (hx : l[j]? = some x) : w.cell? ⟨g, j, none⟩ = some (.int .i64 x) := by
  have hj : j < n * 1 := by have h1 := (List.getElem?_eq_some_iff.1 hx).1; have h2 := h.1; simp at h2; omega
  rw [h.cellAt j hj, List.getElem?_map, hx]
  rfl

/-- VmPorts' code. -/
def pbC (k : Int) : List Int := [24, k, 21, 4, 0, 25, k, 0]
theorem pbC_fine (k : Int) (h : k = 0 ∨ k = 1 ∨ k = 2 ∨ k = 3) : Fine (cellsOf (symsP true)) (pbC k) := by
  rcases h with rfl | rfl | rfl | rfl <;> exact fineB_ok [some [], some [5], some [5, 5], some [5], some []] (by kernel_rfl)
theorem pbC_run (SA Ca La : Option Addr) (SC Cc c f g Lc : Nat) (k i0 i1 i2 i3 now v : Int) (h : k = 0 ∨ k = 1 ∨ k = 2 ∨ k = 3) (hv : wrapK 5 (if k = 0 then i0 else if k = 1 then i1 else if k = 2 then i2 else i3) = v) :
    execP (envC SA SC (symsP true) [7, -1] Ca Cc (pbC k) c f g i0 i1 i2 i3 now La Lc) 101 (pbC k) 0 ⟨begL, 5, 6, 7, 8, 100, 0, []⟩ = (⟨v :: begL.tail, if k = 0 then v else 5, if k = 1 then v else 6, if k = 2 then v else 7, if k = 3 then v else 8, 95, 5, []⟩, 0) := by
  have r0 : rdL (pbC k) 0 = ((0, 2, 24, k, 0), 0) := by rcases h with rfl | rfl | rfl | rfl <;> rfl
  have r2 : rdL (pbC k) 2 = ((2, 3, 21, 0, 0), 0) := by rcases h with rfl | rfl | rfl | rfl <;> rfl
  have r3 : rdL (pbC k) 3 = ((3, 5, 4, 0, 0), 0) := by rcases h with rfl | rfl | rfl | rfl <;> rfl
  have r5 : rdL (pbC k) 5 = ((5, 7, 25, k, 0), 0) := by rcases h with rfl | rfl | rfl | rfl <;> rfl
  have r7 : rdL (pbC k) 7 = ((7, 8, 0, 0, 0), 0) := by rcases h with rfl | rfl | rfl | rfl <;> rfl
  have hp : isPort k = true := by rcases h with rfl | rfl | rfl | rfl <;> rfl
  rw [ex_op r0 (by simp) (by decide) (S1 := ⟨begL, 5, 6, 7, 8, 99, 1, [(5, v)]⟩) (x := 0) (by simp [doP, hp, pushS, inD, envC, hv]), if_pos rfl]
  rw [ex_op r2 (by simp) (by decide) (S1 := ⟨begL, 5, 6, 7, 8, 98, 2, [(5, v), (5, v)]⟩) (x := 0) rfl, if_pos rfl]
  rw [ex_op r3 (by simp) (by decide) (S1 := ⟨v :: begL.tail, 5, 6, 7, 8, 97, 3, [(5, v)]⟩) (x := 0) rfl, if_pos rfl]
  rw [ex_op r5 (by simp) (by decide) (S1 := ⟨v :: begL.tail, if k = 0 then v else 5, if k = 1 then v else 6, if k = 2 then v else 7, if k = 3 then v else 8, 96, 4, []⟩) (x := 0) (by rcases h with rfl | rfl | rfl | rfl <;> rfl), if_pos rfl]
  rw [ex_end r7 (by simp)]
  rfl

/-- VmJumps' code. -/
def jbC : List Int := [24, 0, 24, 1, 17, 19, 12, 2, 0, 25, 0, 0, 2, 1, 25, 0, 0]
theorem jbC_fine : Fine (cellsOf (symsP true)) jbC := fineB_ok [some [], some [5], some [5, 5], some [1], some [], some [5], some [], some [], some [5], some []] (by kernel_rfl)
theorem jbC_run (SA Ca La : Option Addr) (SC Cc c f g Lc : Nat) (x y now : Int) (hx : wrapK 5 x = x) (hy : wrapK 5 y = y) :
    execP (envC SA SC (symsP true) [7, -1] Ca Cc jbC c f g x y 0 0 now La Lc) 101 jbC 0 ⟨begL, 5, 6, 7, 8, 100, 0, []⟩ = (⟨begL, if x < y then 7 else -1, 6, 7, 8, 93, 7, []⟩, 0) := by
  have r0 : rdL jbC 0 = ((0, 2, 24, 0, 0), 0) := rfl
  have r2 : rdL jbC 2 = ((2, 4, 24, 1, 0), 0) := rfl
  have r4 : rdL jbC 4 = ((4, 5, 17, 0, 0), 0) := rfl
  have r5 : rdL jbC 5 = ((5, 7, 19, 12, 0), 0) := rfl
  have r7 : rdL jbC 7 = ((7, 9, 2, 0, 0), 0) := rfl
  have r9 : rdL jbC 9 = ((9, 11, 25, 0, 0), 0) := rfl
  have r11 : rdL jbC 11 = ((11, 12, 0, 0, 0), 0) := rfl
  have r12 : rdL jbC 12 = ((12, 14, 2, 1, 0), 0) := rfl
  have r14 : rdL jbC 14 = ((14, 16, 25, 0, 0), 0) := rfl
  have r16 : rdL jbC 16 = ((16, 17, 0, 0, 0), 0) := rfl
  rw [ex_op r0 (by simp) (by decide) (S1 := ⟨begL, 5, 6, 7, 8, 99, 1, [(5, x)]⟩) (x := 0) (by simp [doP, isPort, pushS, inD, envC, hx]), if_pos rfl]
  rw [ex_op r2 (by simp) (by decide) (S1 := ⟨begL, 5, 6, 7, 8, 98, 2, [(5, x), (5, y)]⟩) (x := 0) (by simp [doP, isPort, pushS, inD, envC, hy]), if_pos rfl]
  by_cases h : x < y
  · have ht : twoM 17 5 5 x y = 1 := by simp [twoM, kindE, kindM, signK, fitsK, rawK, h]; decide
    have hte : twoE 17 5 5 y = 0 := by simp [twoE, kindE, signK, fitsK]
    rw [ex_op r4 (by simp) (by decide) (S1 := ⟨begL, 5, 6, 7, 8, 97, 3, [(1, 1)]⟩) (x := 0) (by simp [doP, memoryP, operateP, popS, pushS, ht, hte]; decide), if_pos rfl]
    rw [ex_jz r5 (by simp) (l := []) rfl, if_neg (by decide)]
    rw [ex_op r7 (by simp) (by decide) (S1 := ⟨begL, 5, 6, 7, 8, 95, 5, [(5, 7)]⟩) (x := 0) rfl, if_pos rfl]
    rw [ex_op r9 (by simp) (by decide) (S1 := ⟨begL, 7, 6, 7, 8, 94, 6, []⟩) (x := 0) rfl, if_pos rfl]
    rw [ex_end r11 (by simp), if_pos h]
    rfl
  · have ht : twoM 17 5 5 x y = 0 := by simp [twoM, kindE, kindM, signK, fitsK, rawK, h]; decide
    have hte : twoE 17 5 5 y = 0 := by simp [twoE, kindE, signK, fitsK]
    rw [ex_op r4 (by simp) (by decide) (S1 := ⟨begL, 5, 6, 7, 8, 97, 3, [(1, 0)]⟩) (x := 0) (by simp [doP, memoryP, operateP, popS, pushS, ht, hte]; decide), if_pos rfl]
    rw [ex_jz r5 (by simp) (l := []) rfl, if_pos rfl]
    rw [ex_op r12 (by simp) (by decide) (S1 := ⟨begL, 5, 6, 7, 8, 95, 5, [(5, -1)]⟩) (x := 0) rfl, if_pos rfl]
    rw [ex_op r14 (by simp) (by decide) (S1 := ⟨begL, -1, 6, 7, 8, 94, 6, []⟩) (x := 0) rfl, if_pos rfl]
    rw [ex_end r16 (by simp), if_neg h]
    rfl

/-- VmStacks' six codes. -/
def scC (k : Int) : List Int := [24, 0, 24, 1] ++ (if k = 1 then [22] else if k = 2 then [21, 22] else if k = 3 then [23, 4, 23, 5] else if k = 4 then [23, 3, 15, 23, 5] else if k = 5 then [16, 23, 5] else []) ++ [25, 2, 0]
def scW (k x y : Int) : Int := if k = 1 then x else if k = 3 then (y + 32768) % 65536 - 32768 else if k = 4 then 65535 - y % 65536 else if k = 5 then (if x = y then 1 else 0) else y
theorem scC_fine (k : Int) (h : k = 0 ∨ k = 1 ∨ k = 2 ∨ k = 3 ∨ k = 4 ∨ k = 5) : Fine (cellsOf (symsP true)) (scC k) := by
  rcases h with rfl | rfl | rfl | rfl | rfl | rfl
  · exact fineB_ok [some [], some [5], some [5, 5], some [5]] (by kernel_rfl)
  · exact fineB_ok [some [], some [5], some [5, 5], some [5], some []] (by kernel_rfl)
  · exact fineB_ok [some [], some [5], some [5, 5], some [5, 5, 5], some [5, 5], some [5]] (by kernel_rfl)
  · exact fineB_ok [some [], some [5], some [5, 5], some [5, 4], some [5, 5], some [5]] (by kernel_rfl)
  · exact fineB_ok [some [], some [5], some [5, 5], some [5, 3], some [5, 3], some [5, 5], some [5]] (by kernel_rfl)
  · exact fineB_ok [some [], some [5], some [5, 5], some [1], some [5], some []] (by kernel_rfl)
theorem conv54 (y : Int) : wrapK 5 ((y + 32768) % 65536 - 32768) = (y + 32768) % 65536 - 32768 := by
  have : -32768 ≤ (y + 32768) % 65536 - 32768 ∧ (y + 32768) % 65536 - 32768 < 32768 := by omega
  generalize (y + 32768) % 65536 - 32768 = z at this
  simp [wrapK]; unfold wrap32; omega
theorem not3 (z : Int) (h : 0 ≤ z ∧ z < 65536) : notK 3 z = 65535 - z := by
  have e : bits .xor .i64 (-1) z = -1 - z := by
    obtain ⟨a, rfl⟩ := Int.eq_ofNat_of_zero_le h.1
    exact i64_not a (by omega)
  simp [notK, e, wrapK]; omega
theorem conv53 (z : Int) (h : 0 ≤ z ∧ z < 65536) : wrapK 5 (65535 - z) = 65535 - z := by
  simp [wrapK]; unfold wrap32; omega
theorem scC_run (SA Ca La : Option Addr) (SC Cc c f g Lc : Nat) (k x y now : Int) (h : k = 0 ∨ k = 1 ∨ k = 2 ∨ k = 3 ∨ k = 4 ∨ k = 5) (hx : wrapK 5 x = x) (hy : wrapK 5 y = y) :
    ∃ R, R.o0 = 5 ∧ R.o1 = 6 ∧ R.o2 = scW k x y ∧ R.o3 = 8 ∧ ∀ (SA Ca La : Option Addr) (SC Cc c f g Lc : Nat), execP (envC SA SC (symsP true) [7, -1] Ca Cc (scC k) c f g x y 0 0 now La Lc) 101 (scC k) 0 ⟨begL, 5, 6, 7, 8, 100, 0, []⟩ = (R, 0) := by
  rcases h with rfl | rfl | rfl | rfl | rfl | rfl
  · refine ⟨⟨begL, 5, 6, y, 8, 96, 4, [(5, x)]⟩, rfl, rfl, rfl, rfl, fun SA Ca La SC Cc c f g Lc => ?_⟩
    have r0 : rdL (scC 0) 0 = ((0, 2, 24, 0, 0), 0) := rfl
    have r1 : rdL (scC 0) 2 = ((2, 4, 24, 1, 0), 0) := rfl
    have r2 : rdL (scC 0) 4 = ((4, 6, 25, 2, 0), 0) := rfl
    have r3 : rdL (scC 0) 6 = ((6, 7, 0, 0, 0), 0) := rfl
    rw [ex_op r0 (by simp) (by decide) (S1 := ⟨begL, 5, 6, 7, 8, 99, 1, [(5, x)]⟩) (x := 0) (by simp [doP, isPort, pushS, inD, envC, hx]), if_pos rfl]
    rw [ex_op r1 (by simp) (by decide) (S1 := ⟨begL, 5, 6, 7, 8, 98, 2, [(5, x), (5, y)]⟩) (x := 0) (by simp [doP, isPort, pushS, inD, envC, hy]), if_pos rfl]
    rw [ex_op r2 (by simp) (by decide) (S1 := ⟨begL, 5, 6, y, 8, 97, 3, [(5, x)]⟩) (x := 0) (rfl), if_pos rfl]
    rw [ex_end r3 (by simp)]
    rfl
  · refine ⟨⟨begL, 5, 6, x, 8, 95, 5, []⟩, rfl, rfl, rfl, rfl, fun SA Ca La SC Cc c f g Lc => ?_⟩
    have r0 : rdL (scC 1) 0 = ((0, 2, 24, 0, 0), 0) := rfl
    have r1 : rdL (scC 1) 2 = ((2, 4, 24, 1, 0), 0) := rfl
    have r2 : rdL (scC 1) 4 = ((4, 5, 22, 0, 0), 0) := rfl
    have r3 : rdL (scC 1) 5 = ((5, 7, 25, 2, 0), 0) := rfl
    have r4 : rdL (scC 1) 7 = ((7, 8, 0, 0, 0), 0) := rfl
    rw [ex_op r0 (by simp) (by decide) (S1 := ⟨begL, 5, 6, 7, 8, 99, 1, [(5, x)]⟩) (x := 0) (by simp [doP, isPort, pushS, inD, envC, hx]), if_pos rfl]
    rw [ex_op r1 (by simp) (by decide) (S1 := ⟨begL, 5, 6, 7, 8, 98, 2, [(5, x), (5, y)]⟩) (x := 0) (by simp [doP, isPort, pushS, inD, envC, hy]), if_pos rfl]
    rw [ex_op r2 (by simp) (by decide) (S1 := ⟨begL, 5, 6, 7, 8, 97, 3, [(5, x)]⟩) (x := 0) (rfl), if_pos rfl]
    rw [ex_op r3 (by simp) (by decide) (S1 := ⟨begL, 5, 6, x, 8, 96, 4, []⟩) (x := 0) (rfl), if_pos rfl]
    rw [ex_end r4 (by simp)]
    rfl
  · refine ⟨⟨begL, 5, 6, y, 8, 94, 6, [(5, x)]⟩, rfl, rfl, rfl, rfl, fun SA Ca La SC Cc c f g Lc => ?_⟩
    have r0 : rdL (scC 2) 0 = ((0, 2, 24, 0, 0), 0) := rfl
    have r1 : rdL (scC 2) 2 = ((2, 4, 24, 1, 0), 0) := rfl
    have r2 : rdL (scC 2) 4 = ((4, 5, 21, 0, 0), 0) := rfl
    have r3 : rdL (scC 2) 5 = ((5, 6, 22, 0, 0), 0) := rfl
    have r4 : rdL (scC 2) 6 = ((6, 8, 25, 2, 0), 0) := rfl
    have r5 : rdL (scC 2) 8 = ((8, 9, 0, 0, 0), 0) := rfl
    rw [ex_op r0 (by simp) (by decide) (S1 := ⟨begL, 5, 6, 7, 8, 99, 1, [(5, x)]⟩) (x := 0) (by simp [doP, isPort, pushS, inD, envC, hx]), if_pos rfl]
    rw [ex_op r1 (by simp) (by decide) (S1 := ⟨begL, 5, 6, 7, 8, 98, 2, [(5, x), (5, y)]⟩) (x := 0) (by simp [doP, isPort, pushS, inD, envC, hy]), if_pos rfl]
    rw [ex_op r2 (by simp) (by decide) (S1 := ⟨begL, 5, 6, 7, 8, 97, 3, [(5, x), (5, y), (5, y)]⟩) (x := 0) (rfl), if_pos rfl]
    rw [ex_op r3 (by simp) (by decide) (S1 := ⟨begL, 5, 6, 7, 8, 96, 4, [(5, x), (5, y)]⟩) (x := 0) (rfl), if_pos rfl]
    rw [ex_op r4 (by simp) (by decide) (S1 := ⟨begL, 5, 6, y, 8, 95, 5, [(5, x)]⟩) (x := 0) (rfl), if_pos rfl]
    rw [ex_end r5 (by simp)]
    rfl
  · refine ⟨⟨begL, 5, 6, (y + 32768) % 65536 - 32768, 8, 94, 6, [(5, x)]⟩, rfl, rfl, rfl, rfl, fun SA Ca La SC Cc c f g Lc => ?_⟩
    have r0 : rdL (scC 3) 0 = ((0, 2, 24, 0, 0), 0) := rfl
    have r1 : rdL (scC 3) 2 = ((2, 4, 24, 1, 0), 0) := rfl
    have r2 : rdL (scC 3) 4 = ((4, 6, 23, 4, 0), 0) := rfl
    have r3 : rdL (scC 3) 6 = ((6, 8, 23, 5, 0), 0) := rfl
    have r4 : rdL (scC 3) 8 = ((8, 10, 25, 2, 0), 0) := rfl
    have r5 : rdL (scC 3) 10 = ((10, 11, 0, 0, 0), 0) := rfl
    rw [ex_op r0 (by simp) (by decide) (S1 := ⟨begL, 5, 6, 7, 8, 99, 1, [(5, x)]⟩) (x := 0) (by simp [doP, isPort, pushS, inD, envC, hx]), if_pos rfl]
    rw [ex_op r1 (by simp) (by decide) (S1 := ⟨begL, 5, 6, 7, 8, 98, 2, [(5, x), (5, y)]⟩) (x := 0) (by simp [doP, isPort, pushS, inD, envC, hy]), if_pos rfl]
    rw [ex_op r2 (by simp) (by decide) (S1 := ⟨begL, 5, 6, 7, 8, 97, 3, [(5, x), (4, (y + 32768) % 65536 - 32768)]⟩) (x := 0) (rfl), if_pos rfl]
    rw [ex_op r3 (by simp) (by decide) (S1 := ⟨begL, 5, 6, 7, 8, 96, 4, [(5, x), (5, (y + 32768) % 65536 - 32768)]⟩) (x := 0) (by simp [doP, memoryP, operateP, popS, pushS, conv54]), if_pos rfl]
    rw [ex_op r4 (by simp) (by decide) (S1 := ⟨begL, 5, 6, (y + 32768) % 65536 - 32768, 8, 95, 5, [(5, x)]⟩) (x := 0) (rfl), if_pos rfl]
    rw [ex_end r5 (by simp)]
    rfl
  · refine ⟨⟨begL, 5, 6, 65535 - y % 65536, 8, 93, 7, [(5, x)]⟩, rfl, rfl, rfl, rfl, fun SA Ca La SC Cc c f g Lc => ?_⟩
    have r0 : rdL (scC 4) 0 = ((0, 2, 24, 0, 0), 0) := rfl
    have r1 : rdL (scC 4) 2 = ((2, 4, 24, 1, 0), 0) := rfl
    have r2 : rdL (scC 4) 4 = ((4, 6, 23, 3, 0), 0) := rfl
    have r3 : rdL (scC 4) 6 = ((6, 7, 15, 0, 0), 0) := rfl
    have r4 : rdL (scC 4) 7 = ((7, 9, 23, 5, 0), 0) := rfl
    have r5 : rdL (scC 4) 9 = ((9, 11, 25, 2, 0), 0) := rfl
    have r6 : rdL (scC 4) 11 = ((11, 12, 0, 0, 0), 0) := rfl
    rw [ex_op r0 (by simp) (by decide) (S1 := ⟨begL, 5, 6, 7, 8, 99, 1, [(5, x)]⟩) (x := 0) (by simp [doP, isPort, pushS, inD, envC, hx]), if_pos rfl]
    rw [ex_op r1 (by simp) (by decide) (S1 := ⟨begL, 5, 6, 7, 8, 98, 2, [(5, x), (5, y)]⟩) (x := 0) (by simp [doP, isPort, pushS, inD, envC, hy]), if_pos rfl]
    rw [ex_op r2 (by simp) (by decide) (S1 := ⟨begL, 5, 6, 7, 8, 97, 3, [(5, x), (3, y % 65536)]⟩) (x := 0) (rfl), if_pos rfl]
    rw [ex_op r3 (by simp) (by decide) (S1 := ⟨begL, 5, 6, 7, 8, 96, 4, [(5, x), (3, 65535 - y % 65536)]⟩) (x := 0) (by simp [doP, memoryP, operateP, popS, pushS, not3 (y % 65536) (by omega)]), if_pos rfl]
    rw [ex_op r4 (by simp) (by decide) (S1 := ⟨begL, 5, 6, 7, 8, 95, 5, [(5, x), (5, 65535 - y % 65536)]⟩) (x := 0) (by simp [doP, memoryP, operateP, popS, pushS, conv53 (y % 65536) (by omega)]), if_pos rfl]
    rw [ex_op r5 (by simp) (by decide) (S1 := ⟨begL, 5, 6, 65535 - y % 65536, 8, 94, 6, [(5, x)]⟩) (x := 0) (rfl), if_pos rfl]
    rw [ex_end r6 (by simp)]
    rfl
  · refine ⟨⟨begL, 5, 6, if x = y then 1 else 0, 8, 94, 6, []⟩, rfl, rfl, rfl, rfl, fun SA Ca La SC Cc c f g Lc => ?_⟩
    have r0 : rdL (scC 5) 0 = ((0, 2, 24, 0, 0), 0) := rfl
    have r1 : rdL (scC 5) 2 = ((2, 4, 24, 1, 0), 0) := rfl
    have r2 : rdL (scC 5) 4 = ((4, 5, 16, 0, 0), 0) := rfl
    have r3 : rdL (scC 5) 5 = ((5, 7, 23, 5, 0), 0) := rfl
    have r4 : rdL (scC 5) 7 = ((7, 9, 25, 2, 0), 0) := rfl
    have r5 : rdL (scC 5) 9 = ((9, 10, 0, 0, 0), 0) := rfl
    rw [ex_op r0 (by simp) (by decide) (S1 := ⟨begL, 5, 6, 7, 8, 99, 1, [(5, x)]⟩) (x := 0) (by simp [doP, isPort, pushS, inD, envC, hx]), if_pos rfl]
    rw [ex_op r1 (by simp) (by decide) (S1 := ⟨begL, 5, 6, 7, 8, 98, 2, [(5, x), (5, y)]⟩) (x := 0) (by simp [doP, isPort, pushS, inD, envC, hy]), if_pos rfl]
    rw [ex_op r2 (by simp) (by decide) (S1 := ⟨begL, 5, 6, 7, 8, 97, 3, [(1, if x = y then 1 else 0)]⟩) (x := 0) (by by_cases e : x = y <;> simp [doP, memoryP, operateP, popS, pushS, twoM, twoE, kindE, kindM, signK, fitsK, rawK, e] <;> decide), if_pos rfl]
    rw [ex_op r3 (by simp) (by decide) (S1 := ⟨begL, 5, 6, 7, 8, 96, 4, [(5, if x = y then 1 else 0)]⟩) (x := 0) (by simp only [doP, memoryP, operateP, popS, pushS]; by_cases e : x = y <;> simp [e, wrapK] <;> (unfold wrap32; omega)), if_pos rfl]
    rw [ex_op r4 (by simp) (by decide) (S1 := ⟨begL, 5, 6, if x = y then 1 else 0, 8, 95, 5, []⟩) (x := 0) (rfl), if_pos rfl]
    rw [ex_end r5 (by simp)]
    rfl
end Go.Proofs.YtngobbbinacomaaDoor
