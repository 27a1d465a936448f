/- Chapter 14: VmCalls: runs with calls; its code; what its run leaves. -/
import Derived.Test.YtngobbbinacomaaDoorRN14
import Derived.Test.YtngobbbinacomaaDoorRLD14
namespace Go.Proofs.YtngobbbinacomaaDoor
open Go.RowKit Go.Proofs.YtngobbbinacomaaDoor.c11 Go.Proofs.YtngobbbinacomaaDoor.c10
set_option linter.unusedVariables false
set_option linter.unusedSimpArgs false

/-- A call that ends well. -/
theorem ex_call {E : Env} {f : Nat} {b : List Int} {p : Int} {S S1 : St} {a0 nx a n : Int} (hr : rdL b p = ((a0, nx, 20, a, n), 0)) (h : S.left ≠ 0) (ha : a < E.funcs.length)
    (hc : execP E f (E.funcs.getD a.toNat []) 0 { S with left := S.left - 1, used := S.used + 1, stk := [] } = (S1, 0)) : execP E (f + 1) b p S = execP E f b nx { S1 with stk := S.stk } := by
  rw [execP, if_neg h, hr]
  simp only [hc, ha]
  simp

/-- VmCalls' functions: the last one, one that calls. -/
def clL : List Int := [24, 3, 3, 0, 2, 0, 7, 4, 0, 25, 3, 0]
def clC (k : Int) : List Int := [24, 3, 3, 0, 2, 0, 7, 4, 0, 20, k, 25, 3, 0]
structure ClEnv (E : Env) : Prop where
  consts : E.consts = [1]
  port : E.i3 = 8
  kind : (cellD E.lay 0).kind = 5
theorem add_one (y : Int) : twoM 7 5 5 y 1 = wrapK 5 (rawK 7 y 1) ∧ twoE 7 5 5 1 = 0 := by
  simp [twoM, twoE, kindE, kindM, signK, fitsK]
/-- The last one's run. -/
theorem cl_last {E : Env} (hE : ClEnv E) (f l U : Nat) (y o0 o1 o2 o3 : Int) : execP E (f + 7) clL 0 ⟨[y], o0, o1, o2, o3, l + 7, U, []⟩ = (⟨[wrapK 5 (rawK 7 y 1)], o0, o1, o2, 8, l, U + 7, []⟩, 0) := by
  have r0 : rdL clL 0 = ((0, 2, 24, 3, 0), 0) := rfl
  have r2 : rdL clL 2 = ((2, 4, 3, 0, 0), 0) := rfl
  have r4 : rdL clL 4 = ((4, 6, 2, 0, 0), 0) := rfl
  have r6 : rdL clL 6 = ((6, 7, 7, 0, 0), 0) := rfl
  have r7 : rdL clL 7 = ((7, 9, 4, 0, 0), 0) := rfl
  have r9 : rdL clL 9 = ((9, 11, 25, 3, 0), 0) := rfl
  have r11 : rdL clL 11 = ((11, 12, 0, 0, 0), 0) := rfl
  obtain ⟨a1, a2⟩ := add_one y
  have h8 : wrapK 5 8 = 8 := by simp [wrapK]; unfold wrap32; omega
  rw [ex_op r0 (by simp) (by decide) (S1 := ⟨[y], o0, o1, o2, o3, l + 6, U + 1, [(5, 8)]⟩) (x := 0) (by simp [doP, isPort, pushS, inD, hE.port, h8]), if_pos rfl]
  rw [ex_op r2 (by simp) (by decide) (S1 := ⟨[y], o0, o1, o2, o3, l + 5, U + 2, [(5, 8), (5, y)]⟩) (x := 0) (by simp [doP, memoryP, isAt, pushS, hE.kind]), if_pos rfl]
  rw [ex_op r4 (by simp) (by decide) (S1 := ⟨[y], o0, o1, o2, o3, l + 4, U + 3, [(5, 8), (5, y), (5, 1)]⟩) (x := 0) (by simp [doP, pushS, hE.consts]), if_pos rfl]
  rw [ex_op r6 (by simp) (by decide) (S1 := ⟨[y], o0, o1, o2, o3, l + 3, U + 4, [(5, 8), (5, wrapK 5 (rawK 7 y 1))]⟩) (x := 0) (by simp [doP, memoryP, operateP, popS, pushS, a1, a2]; decide), if_pos rfl]
  rw [ex_op r7 (by simp) (by decide) (S1 := ⟨[wrapK 5 (rawK 7 y 1)], o0, o1, o2, o3, l + 2, U + 5, [(5, 8)]⟩) (x := 0) (by simp [doP, memoryP, isAt, popS]), if_pos rfl]
  rw [ex_op r9 (by simp) (by decide) (S1 := ⟨[wrapK 5 (rawK 7 y 1)], o0, o1, o2, 8, l + 1, U + 6, []⟩) (x := 0) (by simp [doP, isPort, popS, setOut]), if_pos rfl]
  rw [ex_end r11 (by simp)]
  rfl
/-- One that calls: its run, given that of whom it calls. -/
theorem cl_call {E : Env} (hE : ClEnv E) (k : Int) (hk : 0 ≤ k ∧ k < 4) (ha : k < E.funcs.length) (f l l' U U' : Nat) (y z o0 o1 o2 o3 : Int)
    (hc : execP E (f + 2) (E.funcs.getD k.toNat []) 0 ⟨[wrapK 5 (rawK 7 y 1)], o0, o1, o2, o3, l, U + 6, []⟩ = (⟨[z], o0, o1, o2, 8, l' + 2, U', []⟩, 0)) :
    execP E (f + 8) (clC k) 0 ⟨[y], o0, o1, o2, o3, l + 6, U, []⟩ = (⟨[z], o0, o1, o2, 8, l', U' + 2, []⟩, 0) := by
  have hr : rdL (clC k) 0 = ((0, 2, 24, 3, 0), 0) ∧ rdL (clC k) 2 = ((2, 4, 3, 0, 0), 0) ∧ rdL (clC k) 4 = ((4, 6, 2, 0, 0), 0) ∧ rdL (clC k) 6 = ((6, 7, 7, 0, 0), 0) ∧ rdL (clC k) 7 = ((7, 9, 4, 0, 0), 0) ∧ rdL (clC k) 9 = ((9, 11, 20, k, 0), 0) ∧ rdL (clC k) 11 = ((11, 13, 25, 3, 0), 0) ∧ rdL (clC k) 13 = ((13, 14, 0, 0, 0), 0) := by
    rcases (show k = 0 ∨ k = 1 ∨ k = 2 ∨ k = 3 by omega) with rfl | rfl | rfl | rfl <;> exact ⟨rfl, rfl, rfl, rfl, rfl, rfl, rfl, rfl⟩
  obtain ⟨r0, r2, r4, r6, r7, r9, r11, r13⟩ := hr
  obtain ⟨a1, a2⟩ := add_one y
  have h8 : wrapK 5 8 = 8 := by simp [wrapK]; unfold wrap32; omega
  rw [ex_op r0 (by simp) (by decide) (S1 := ⟨[y], o0, o1, o2, o3, l + 5, U + 1, [(5, 8)]⟩) (x := 0) (by simp [doP, isPort, pushS, inD, hE.port, h8]), if_pos rfl]
  rw [ex_op r2 (by simp) (by decide) (S1 := ⟨[y], o0, o1, o2, o3, l + 4, U + 2, [(5, 8), (5, y)]⟩) (x := 0) (by simp [doP, memoryP, isAt, pushS, hE.kind]), if_pos rfl]
  rw [ex_op r4 (by simp) (by decide) (S1 := ⟨[y], o0, o1, o2, o3, l + 3, U + 3, [(5, 8), (5, y), (5, 1)]⟩) (x := 0) (by simp [doP, pushS, hE.consts]), if_pos rfl]
  rw [ex_op r6 (by simp) (by decide) (S1 := ⟨[y], o0, o1, o2, o3, l + 2, U + 4, [(5, 8), (5, wrapK 5 (rawK 7 y 1))]⟩) (x := 0) (by simp [doP, memoryP, operateP, popS, pushS, a1, a2]; decide), if_pos rfl]
  rw [ex_op r7 (by simp) (by decide) (S1 := ⟨[wrapK 5 (rawK 7 y 1)], o0, o1, o2, o3, l + 1, U + 5, [(5, 8)]⟩) (x := 0) (by simp [doP, memoryP, isAt, popS]), if_pos rfl]
  rw [ex_call r9 (by simp) ha (S1 := ⟨[z], o0, o1, o2, 8, l' + 2, U', []⟩) hc]
  rw [ex_op r11 (by simp) (by decide) (S1 := ⟨[z], o0, o1, o2, 8, l' + 1, U' + 1, []⟩) (x := 0) (by simp [doP, isPort, popS, setOut]), if_pos rfl]
  rw [ex_end r13 (by simp)]
  rfl

/-- VmCalls' functions. -/
def clF (d : Nat) : List (List Int) := if d = 1 then [clL] else if d = 2 then [clC 1, clL] else if d = 3 then [clC 1, clC 2, clL] else [clC 1, clC 2, clC 3, clL]
theorem add_twice (a : Int) (h : -9000000000000000000 ≤ a ∧ a ≤ 9000000000000000000) : wrapK 5 (rawK 7 (wrapK 5 a) 1) = wrapK 5 (a + 1) := by
  simp only [wrapK, rawK]
  simp
  unfold wrap32
  first | omega | (unfold wrap64; omega)
theorem cl_run {E : Env} (hE : ClEnv E) (d : Nat) (hd : d = 1 ∨ d = 2 ∨ d = 3 ∨ d = 4) (hF : E.funcs = clF d) (x : Int) (hx : wrapK 5 x = x) :
    execP E 101 ((clF d).getD 0 []) 0 ⟨[x], 0, 0, 0, 0, 100, 0, []⟩ = (⟨[wrapK 5 (x + d)], 0, 0, 0, 8, 100 - (8 * d - 1), 8 * d - 1, []⟩, 0) := by
  have hb : -2147483648 ≤ x ∧ x ≤ 2147483647 := by
    have : wrap32 x = x := by simpa [wrapK] using hx
    unfold wrap32 at this; omega
  have e1 : wrapK 5 (rawK 7 x 1) = wrapK 5 (x + 1) := by rw [← hx]; rw [add_twice x (by omega), hx]
  have e2 : wrapK 5 (rawK 7 (wrapK 5 (x + 1)) 1) = wrapK 5 (x + 2) := by rw [add_twice _ (by omega)]; congr 1; omega
  have e3 : wrapK 5 (rawK 7 (wrapK 5 (x + 2)) 1) = wrapK 5 (x + 3) := by rw [add_twice _ (by omega)]; congr 1; omega
  have e4 : wrapK 5 (rawK 7 (wrapK 5 (x + 3)) 1) = wrapK 5 (x + 4) := by rw [add_twice _ (by omega)]; congr 1; omega
  rcases hd with rfl | rfl | rfl | rfl
  · have h := cl_last hE 94 93 0 x 0 0 0 0
    rw [e1] at h
    exact h
  · have hf : E.funcs = [clC 1, clL] := hF
    have h0 : E.funcs.getD (1 : Int).toNat [] = clL := by rw [hf]; rfl
    have h1 := cl_last hE 88 87 6 (wrapK 5 (x + 1)) 0 0 0 0
    rw [e2] at h1
    have h := cl_call hE 1 (by decide) (by rw [hf]; decide) 93 94 85 0 13 x (wrapK 5 (x + 2)) 0 0 0 0 (by rw [h0, e1]; exact h1)
    exact h
  · have hf : E.funcs = [clC 1, clC 2, clL] := hF
    have h0 : E.funcs.getD (1 : Int).toNat [] = clC 2 := by rw [hf]; rfl
    have h00 : E.funcs.getD (2 : Int).toNat [] = clL := by rw [hf]; rfl
    have h2 := cl_last hE 82 81 12 (wrapK 5 (x + 2)) 0 0 0 0
    rw [e3] at h2
    have h1 := cl_call hE 2 (by decide) (by rw [hf]; decide) 87 88 79 6 19 (wrapK 5 (x + 1)) (wrapK 5 (x + 3)) 0 0 0 0 (by rw [h00, e2]; exact h2)
    have h := cl_call hE 1 (by decide) (by rw [hf]; decide) 93 94 77 0 21 x (wrapK 5 (x + 3)) 0 0 0 0 (by rw [h0, e1]; exact h1)
    exact h
  · have hf : E.funcs = [clC 1, clC 2, clC 3, clL] := hF
    have h0 : E.funcs.getD (1 : Int).toNat [] = clC 2 := by rw [hf]; rfl
    have h00 : E.funcs.getD (2 : Int).toNat [] = clC 3 := by rw [hf]; rfl
    have h000 : E.funcs.getD (3 : Int).toNat [] = clL := by rw [hf]; rfl
    have h3 := cl_last hE 76 75 18 (wrapK 5 (x + 3)) 0 0 0 0
    rw [e4] at h3
    have h2 := cl_call hE 3 (by decide) (by rw [hf]; decide) 81 82 73 12 25 (wrapK 5 (x + 2)) (wrapK 5 (x + 4)) 0 0 0 0 (by rw [h000, e3]; exact h3)
    have h1 := cl_call hE 2 (by decide) (by rw [hf]; decide) 87 88 71 6 27 (wrapK 5 (x + 1)) (wrapK 5 (x + 4)) 0 0 0 0 (by rw [h00, e2]; exact h2)
    have h := cl_call hE 1 (by decide) (by rw [hf]; decide) 93 94 69 0 29 x (wrapK 5 (x + 4)) 0 0 0 0 (by rw [h0, e1]; exact h1)
    exact h

/-- Each is sound over the one variable. -/
def sClx : SymD := ⟨{ data := #[120] }, 5, 0, 0, [], false, [0]⟩
def clT : List (Option (List Int)) := [some [], some [5], some [5, 5], some [5, 5, 5], some [5, 5], some [5], some []]
def clU : List (Option (List Int)) := [some [], some [5], some [5, 5], some [5, 5, 5], some [5, 5], some [5], some [5], some []]
theorem clF_cert (d : Nat) (hd : d = 1 ∨ d = 2 ∨ d = 3 ∨ d = 4) : ∀ (k : Nat) (b : List Int), (clF d)[k]? = some b → (opsL b).2 = 0 ∧ ∃ T, Cert 1 d (cellsOf [sClx]) (opsL b).1 T := by
  intro k b hk
  have hl : ∀ m, 1 ≤ m → m ≤ 4 → (opsL clL).2 = 0 ∧ ∃ T, Cert 1 m (cellsOf [sClx]) (opsL clL).1 T := by
    intro m h1 h4
    rcases (show m = 1 ∨ m = 2 ∨ m = 3 ∨ m = 4 by omega) with rfl | rfl | rfl | rfl <;> exact ⟨by kernel_rfl, clT, certB_ok (by kernel_rfl)⟩
  rcases hd with rfl | rfl | rfl | rfl
  · match k, hk with
    | 0, hk => simp [clF] at hk; subst hk; exact hl 1 (by decide) (by decide)
    | k + 1, hk => simp [clF] at hk
  · match k, hk with
    | 0, hk => simp [clF] at hk; subst hk; exact ⟨by kernel_rfl, clU, certB_ok (by kernel_rfl)⟩
    | 1, hk => simp [clF] at hk; subst hk; exact hl 2 (by decide) (by decide)
    | k + 2, hk => simp [clF] at hk
  · match k, hk with
    | 0, hk => simp [clF] at hk; subst hk; exact ⟨by kernel_rfl, clU, certB_ok (by kernel_rfl)⟩
    | 1, hk => simp [clF] at hk; subst hk; exact ⟨by kernel_rfl, clU, certB_ok (by kernel_rfl)⟩
    | 2, hk => simp [clF] at hk; subst hk; exact hl 3 (by decide) (by decide)
    | k + 3, hk => simp [clF] at hk
  · match k, hk with
    | 0, hk => simp [clF] at hk; subst hk; exact ⟨by kernel_rfl, clU, certB_ok (by kernel_rfl)⟩
    | 1, hk => simp [clF] at hk; subst hk; exact ⟨by kernel_rfl, clU, certB_ok (by kernel_rfl)⟩
    | 2, hk => simp [clF] at hk; subst hk; exact ⟨by kernel_rfl, clU, certB_ok (by kernel_rfl)⟩
    | 3, hk => simp [clF] at hk; subst hk; exact hl 4 (by decide) (by decide)
    | k + 4, hk => simp [clF] at hk

/-- Whom each calls: the next. -/
theorem clF_calls (d : Nat) (hd : d = 1 ∨ d = 2 ∨ d = 3 ∨ d = 4) : ∀ (k : Nat) (b : List Int), (clF d)[k]? = some b → (opsL b).2 = 0 ∧ (opsL b).1.length ≤ 120 ∧ ∀ t ∈ callsL (opsL b).1, ∃ q : Nat, t = q ∧ q < (clF d).length ∧ ((d : Int) - q) + 1 ≤ (d : Int) - k := by
  have cL : callsL (opsL clL).1 = [] := by kernel_rfl
  have c1 : callsL (opsL (clC 1)).1 = [1] := by kernel_rfl
  have c2 : callsL (opsL (clC 2)).1 = [2] := by kernel_rfl
  have c3 : callsL (opsL (clC 3)).1 = [3] := by kernel_rfl
  intro k b hk
  obtain ⟨h1, T, hT⟩ := clF_cert d hd k b hk
  refine ⟨h1, hT.sml, fun t ht => ?_⟩
  rcases hd with rfl | rfl | rfl | rfl
  · match k, hk with
    | 0, hk => simp [clF] at hk; subst hk; rw [cL] at ht; cases ht
    | k + 1, hk => simp [clF] at hk
  · match k, hk with
    | 0, hk => simp [clF] at hk; subst hk; rw [c1] at ht; simp at ht; subst ht; exact ⟨1, rfl, by decide, by decide⟩
    | 1, hk => simp [clF] at hk; subst hk; rw [cL] at ht; cases ht
    | k + 2, hk => simp [clF] at hk
  · match k, hk with
    | 0, hk => simp [clF] at hk; subst hk; rw [c1] at ht; simp at ht; subst ht; exact ⟨1, rfl, by decide, by decide⟩
    | 1, hk => simp [clF] at hk; subst hk; rw [c2] at ht; simp at ht; subst ht; exact ⟨2, rfl, by decide, by decide⟩
    | 2, hk => simp [clF] at hk; subst hk; rw [cL] at ht; cases ht
    | k + 3, hk => simp [clF] at hk
  · match k, hk with
    | 0, hk => simp [clF] at hk; subst hk; rw [c1] at ht; simp at ht; subst ht; exact ⟨1, rfl, by decide, by decide⟩
    | 1, hk => simp [clF] at hk; subst hk; rw [c2] at ht; simp at ht; subst ht; exact ⟨2, rfl, by decide, by decide⟩
    | 2, hk => simp [clF] at hk; subst hk; rw [c3] at ht; simp at ht; subst ht; exact ⟨3, rfl, by decide, by decide⟩
    | 3, hk => simp [clF] at hk; subst hk; rw [cL] at ht; cases ht
    | k + 4, hk => simp [clF] at hk
theorem clF_len (d : Nat) (hd : d = 1 ∨ d = 2 ∨ d = 3 ∨ d = 4) : (clF d).length = d := by rcases hd with rfl | rfl | rfl | rfl <;> rfl
theorem sClx_good : GoodSyms [sClx] := by
  have hm : ∀ s ∈ [sClx], s = sClx := by intro s hs; simpa using hs
  refine ⟨by decide, ?_, ?_, ?_, ?_, ?_, ?_, ?_, ?_, by decide⟩
  · intro s hs; rw [hm s hs]; exact ⟨by decide, by decide, (fun f hf => by cases hf), by decide⟩
  · intro s hs; rw [hm s hs]; simp [Letter, sClx]
  · intro s hs; rw [hm s hs]; simp [TypeOk, sClx]
  · intro s hs; rw [hm s hs]; rfl
  · intro s hs; rw [hm s hs]; decide
  · intro s hs k x hx
    rw [hm s hs] at hx ⊢
    cases k with
    | zero => simp [sClx] at hx; subst hx; kernel_rfl
    | succ k => simp [sClx] at hx
  · intro i j si sj hi hj hji
    have := (List.getElem?_eq_some_iff.1 hi).1
    simp at this; omega
  · intro i hi
    have hd : (List.range 2).all (fun i => decide (sizesN ([sClx].take i) ≤ 64)) = true := by decide
    exact of_decide_eq_true (List.all_eq_true.1 hd i (List.mem_range.2 (Nat.lt_succ_of_le hi)))
end Go.Proofs.YtngobbbinacomaaDoor
