/- Chapter 14: the code of VmTimes: it is sound; what its run leaves. -/
import Derived.Test.YtngobbbinacomaaDoorRP14
import Derived.Test.YtngobbbinacomaaDoorVRE10
namespace Go.Proofs.YtngobbbinacomaaDoor
open Go.RowKit Go.Proofs.YtngobbbinacomaaDoor.c11 Go.Proofs.YtngobbbinacomaaDoor.c10
set_option linter.unusedVariables false
set_option linter.unusedSimpArgs false

/-- VmTimes' code. -/
def tbC (off : Int) : List Int := [26] ++ (encB 1 6 off ++ [17, 23, 5, 25, 1, 26, 23, 5, 25, 0, 0])
theorem encB_push (a N : Int) : encB 1 a N = 1 :: (a % 256) :: nb8 N 8 := by
  have hb9 : bearsN 1 = 9 := rfl
  simp [encB, hb9]
theorem nb8_eight (N : Int) : nb8 N 8 = [IntKind.u64.wrap N % 256, IntKind.u64.wrap N / 256 % 256, IntKind.u64.wrap N / 65536 % 256, IntKind.u64.wrap N / 16777216 % 256, IntKind.u64.wrap N / 4294967296 % 256, IntKind.u64.wrap N / 1099511627776 % 256, IntKind.u64.wrap N / 281474976710656 % 256, IntKind.u64.wrap N / 72057594037927936 % 256] := by
  simp [nb8, List.range_succ]
theorem tbC_len (off : Int) : (tbC off).length = 22 := by
  simp [tbC, encB_push, nb8_length]
theorem tbC_at (off : Int) (k : Nat) (x : Int) (h : ([17, 23, 5, 25, 1, 26, 23, 5, 25, 0, 0] : List Int)[k]? = some x) : (tbC off).getD (11 + k) 0 = x := by
  have e : tbC off = ([26, 1, 6] ++ nb8 off 8) ++ [17, 23, 5, 25, 1, 26, 23, 5, 25, 0, 0] := by simp [tbC, encB_push]
  have hl : ([26, 1, 6] ++ nb8 off 8 : List Int).length = 11 := by simp [nb8_length]
  rw [e, List.getD_eq_getElem?_getD, List.getElem?_append_right (by omega), hl, show 11 + k - 11 = k by omega, h]
  rfl
theorem tb_two (off : Int) (k : Nat) (s a : Int) (hk : k ≤ 9) (h1 : ([17, 23, 5, 25, 1, 26, 23, 5, 25, 0, 0] : List Int)[k]? = some s) (h2 : ([17, 23, 5, 25, 1, 26, 23, 5, 25, 0, 0] : List Int)[k + 1]? = some a) (hb : bearsN s = 1) (hs : s ≤ 29) (hs1 : s ≠ 1) :
    rdL (tbC off) ((11 + k : Nat) : Int) = ((((11 + k : Nat) : Int), ((11 + k : Nat) : Int) + 2, s, a, 0), 0) := by
  have g0 := tbC_at off k s h1
  have g1 := tbC_at off (k + 1) a h2
  rw [← Nat.add_assoc] at g1
  have e : (((11 + k : Nat) : Int)).toNat = 11 + k := by omega
  simp only [rdL, rd, e, g0, g1, hb, tbC_len]
  rw [if_neg (by omega), if_neg (by omega), if_neg (by omega), if_pos (by decide), if_neg hs1]
  refine Prod.ext (Prod.ext rfl (Prod.ext ?_ rfl)) rfl
  simp only []
  omega
theorem tb_one (off : Int) (k : Nat) (s : Int) (hk : k ≤ 10) (h1 : ([17, 23, 5, 25, 1, 26, 23, 5, 25, 0, 0] : List Int)[k]? = some s) (hb : bearsN s = 0) (hs : s ≤ 29) (hs1 : s ≠ 1) :
    rdL (tbC off) ((11 + k : Nat) : Int) = ((((11 + k : Nat) : Int), ((11 + k : Nat) : Int) + 1, s, 0, 0), 0) := by
  have g0 := tbC_at off k s h1
  have e : (((11 + k : Nat) : Int)).toNat = 11 + k := by omega
  simp only [rdL, rd, e, g0, hb, tbC_len]
  rw [if_neg (by omega), if_neg (by omega), if_neg (by omega), if_neg (by decide), if_neg hs1]
  refine Prod.ext (Prod.ext rfl (Prod.ext ?_ rfl)) rfl
  simp only []
  omega
theorem tb_0 (off : Int) : rdL (tbC off) 0 = ((0, 1, 26, 0, 0), 0) := by
  have g0 : (tbC off).getD 0 0 = 26 := rfl
  simp only [rdL, rd, tbC_len, show ((0 : Int)).toNat = 0 from rfl, g0, show bearsN 26 = 0 from rfl]
  rfl
theorem tb_1 (off : Int) (h : I64 off) : rdL (tbC off) 1 = ((1, 11, 1, 6, off), 0) := by
  have hr := rd_enc (tbC off) 1 1 6 off [17, 23, 5, 25, 1, 26, 23, 5, 25, 0, 0] rfl (by decide) (by decide) (by decide) (by decide) h
  rw [show bearsN 1 = 9 from rfl] at hr
  exact hr
def tbO (off : Int) : List Ins := [(0, 1, 26, 0, 0), (1, 11, 1, 6, off), (11, 12, 17, 0, 0), (12, 14, 23, 5, 0), (14, 16, 25, 1, 0), (16, 17, 26, 0, 0), (17, 19, 23, 5, 0), (19, 21, 25, 0, 0), (21, 22, 0, 0, 0)]
theorem tb_reads (off : Int) (h : I64 off) : Reads (tbC off) 0 (tbO off) := by
  have hl : ((tbC off).length : Int) = 22 := by rw [tbC_len]; rfl
  have r11 : rdL (tbC off) 11 = ((11, 12, 17, 0, 0), 0) := tb_one off 0 17 (by decide) rfl rfl (by decide) (by decide)
  have r12 : rdL (tbC off) 12 = ((12, 14, 23, 5, 0), 0) := tb_two off 1 23 5 (by decide) rfl rfl rfl (by decide) (by decide)
  have r14 : rdL (tbC off) 14 = ((14, 16, 25, 1, 0), 0) := tb_two off 3 25 1 (by decide) rfl rfl rfl (by decide) (by decide)
  have r16 : rdL (tbC off) 16 = ((16, 17, 26, 0, 0), 0) := tb_one off 5 26 (by decide) rfl rfl (by decide) (by decide)
  have r17 : rdL (tbC off) 17 = ((17, 19, 23, 5, 0), 0) := tb_two off 6 23 5 (by decide) rfl rfl rfl (by decide) (by decide)
  have r19 : rdL (tbC off) 19 = ((19, 21, 25, 0, 0), 0) := tb_two off 8 25 0 (by decide) rfl rfl rfl (by decide) (by decide)
  have r21 : rdL (tbC off) 21 = ((21, 22, 0, 0, 0), 0) := tb_one off 10 0 (by decide) rfl rfl (by decide) (by decide)
  refine .more 0 _ _ (by omega) (tb_0 off) (.more 1 _ _ (by omega) (tb_1 off h) (.more 11 _ _ (by omega) r11 (.more 12 _ _ (by omega) r12 (.more 14 _ _ (by omega) r14 (.more 16 _ _ (by omega) r16 (.more 17 _ _ (by omega) r17 (.more 19 _ _ (by omega) r19 (.more 21 _ _ (by omega) r21 (.done _ ?_)))))))))
  rw [hl]
  decide
theorem tb_fine (off : Int) (h : I64 off) : Fine (cellsOf (symsP true)) (tbC off) := by
  refine fine_straight (T := [some [], some [6], some [6, 6], some [1], some [5], some [], some [6], some [5], some []]) ?_ (by rw [tbC_len]; decide) (tb_reads off h) ?_ (by rw [tbC_len]; simp [tbO]) ?_
  · intro x hx
    simp only [tbC, encB_push, nb8_eight, List.cons_append, List.nil_append, List.mem_cons] at hx
    simp at hx
    omega
  · have hw : wrapK 6 off = off := by simp [wrapK]
    refine .step (0, 1, 26, 0, 0) [] [6] _ _ (by decide) (by decide) (by decide) (by decide) rfl rfl ?_
    refine .step (1, 11, 1, 6, off) [6] [6, 6] _ _ (by simp only []; omega) (by simp only []; decide) (by simp only []; decide) (by decide) (by simp [bearsB, hw]; decide) rfl ?_
    refine .step (11, 12, 17, 0, 0) [6, 6] [1] _ _ (by decide) (by decide) (by decide) (by decide) rfl rfl ?_
    refine .step (12, 14, 23, 5, 0) [1] [5] _ _ (by decide) (by decide) (by decide) (by decide) rfl rfl ?_
    refine .step (14, 16, 25, 1, 0) [5] [] _ _ (by decide) (by decide) (by decide) (by decide) rfl rfl ?_
    refine .step (16, 17, 26, 0, 0) [] [6] _ _ (by decide) (by decide) (by decide) (by decide) rfl rfl ?_
    refine .step (17, 19, 23, 5, 0) [6] [5] _ _ (by decide) (by decide) (by decide) (by decide) rfl rfl ?_
    refine .step (19, 21, 25, 0, 0) [5] [] _ _ (by decide) (by decide) (by decide) (by decide) rfl rfl ?_
    exact .last 21 [] 22 (by decide) (by decide)
  · intro o ho
    simp [tbO] at ho
    rcases ho with rfl | rfl | rfl | rfl | rfl | rfl | rfl | rfl | rfl <;> simp
theorem tb_run (SA Ca La : Option Addr) (SC Cc c f g Lc : Nat) (off now : Int) (h : I64 off) :
    execP (envC SA SC (symsP true) [7, -1] Ca Cc (tbC off) c f g 0 0 0 0 now La Lc) 101 (tbC off) 0 ⟨begL, 5, 6, 7, 8, 100, 0, []⟩ = (⟨begL, wrapK 5 now, if now < off then 1 else 0, 7, 8, 91, 9, []⟩, 0) := by
  have r11 : rdL (tbC off) 11 = ((11, 12, 17, 0, 0), 0) := tb_one off 0 17 (by decide) rfl rfl (by decide) (by decide)
  have r12 : rdL (tbC off) 12 = ((12, 14, 23, 5, 0), 0) := tb_two off 1 23 5 (by decide) rfl rfl rfl (by decide) (by decide)
  have r14 : rdL (tbC off) 14 = ((14, 16, 25, 1, 0), 0) := tb_two off 3 25 1 (by decide) rfl rfl rfl (by decide) (by decide)
  have r16 : rdL (tbC off) 16 = ((16, 17, 26, 0, 0), 0) := tb_one off 5 26 (by decide) rfl rfl (by decide) (by decide)
  have r17 : rdL (tbC off) 17 = ((17, 19, 23, 5, 0), 0) := tb_two off 6 23 5 (by decide) rfl rfl rfl (by decide) (by decide)
  have r19 : rdL (tbC off) 19 = ((19, 21, 25, 0, 0), 0) := tb_two off 8 25 0 (by decide) rfl rfl rfl (by decide) (by decide)
  have r21 : rdL (tbC off) 21 = ((21, 22, 0, 0, 0), 0) := tb_one off 10 0 (by decide) rfl rfl (by decide) (by decide)
  have hte : twoE 17 6 6 off = 0 := by simp [twoE, kindE, signK, fitsK]
  have ht : twoM 17 6 6 now off = if now < off then 1 else 0 := by
    by_cases e : now < off <;> simp [twoM, kindE, kindM, signK, fitsK, rawK, wrapK, e]
  have hc : wrapK 5 (if now < off then 1 else 0) = if now < off then 1 else 0 := by
    by_cases e : now < off <;> simp [e, wrapK] <;> (unfold wrap32; omega)
  rw [ex_op (tb_0 off) (by simp) (by decide) (S1 := ⟨begL, 5, 6, 7, 8, 99, 1, [(6, now)]⟩) (x := 0) rfl, if_pos rfl]
  rw [ex_op (tb_1 off h) (by simp) (by decide) (S1 := ⟨begL, 5, 6, 7, 8, 98, 2, [(6, now), (6, off)]⟩) (x := 0) rfl, if_pos rfl]
  rw [ex_op r11 (by simp) (by decide) (S1 := ⟨begL, 5, 6, 7, 8, 97, 3, [(1, if now < off then 1 else 0)]⟩) (x := 0) (by simp [doP, memoryP, operateP, popS, pushS, ht, hte]; decide), if_pos rfl]
  rw [ex_op r12 (by simp) (by decide) (S1 := ⟨begL, 5, 6, 7, 8, 96, 4, [(5, if now < off then 1 else 0)]⟩) (x := 0) (by simp [doP, memoryP, operateP, popS, pushS, hc]), if_pos rfl]
  rw [ex_op r14 (by simp) (by decide) (S1 := ⟨begL, 5, if now < off then 1 else 0, 7, 8, 95, 5, []⟩) (x := 0) rfl, if_pos rfl]
  rw [ex_op r16 (by simp) (by decide) (S1 := ⟨begL, 5, if now < off then 1 else 0, 7, 8, 94, 6, [(6, now)]⟩) (x := 0) rfl, if_pos rfl]
  rw [ex_op r17 (by simp) (by decide) (S1 := ⟨begL, 5, if now < off then 1 else 0, 7, 8, 93, 7, [(5, wrapK 5 now)]⟩) (x := 0) rfl, if_pos rfl]
  rw [ex_op r19 (by simp) (by decide) (S1 := ⟨begL, wrapK 5 now, if now < off then 1 else 0, 7, 8, 92, 8, []⟩) (x := 0) rfl, if_pos rfl]
  rw [ex_end r21 (by simp)]
  rfl
end Go.Proofs.YtngobbbinacomaaDoor
