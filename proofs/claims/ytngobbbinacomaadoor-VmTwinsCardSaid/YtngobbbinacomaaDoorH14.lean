/- Chapter 14: what a function's run makes, as a plain function; the machine's loop. -/
import Derived.Test.YtngobbbinacomaaDoorG14
import Derived.Test.YtngobbbinacomaaDoorMA10
import Derived.Outline
namespace Go.Proofs.YtngobbbinacomaaDoor
open Go.RowKit Go.Proofs.YtngobbbinacomaaDoor.c11 Go.Proofs.YtngobbbinacomaaDoor.c10
set_option linter.unusedVariables false
set_option linter.unusedSimpArgs false
attribute [local go_sem ↓] Go.wp_at_zero Go.wp_at_succ

/-- An instruction read. -/
def rdL (b : List Int) (p : Int) : (Int × Int × Int × Int × Int) × Int := rd (fun i => b.getD i 0) b.length p

/-- A function's run, from a byte on: the state behind it, its error. -/
def execP (E : Env) : Nat → List Int → Int → St → St × Int
  | 0, _, _, S => (S, 23)
  | f + 1, b, p, S =>
    if S.left = 0 then (S, 23)
    else if (rdL b p).2 ≠ 0 then (S, (rdL b p).2)
    else if (rdL b p).1.2.2.1 = 0 then ({ S with left := S.left - 1, used := S.used + 1 }, 0)
    else if (rdL b p).1.2.2.1 = 18 then execP E f b (rdL b p).1.2.2.2.1 { S with left := S.left - 1, used := S.used + 1 }
    else if (rdL b p).1.2.2.1 = 19 then
      execP E f b (if (popS { S with left := S.left - 1, used := S.used + 1 }).1.2 = 0 then (rdL b p).1.2.2.2.1 else (rdL b p).1.2.1) (popS { S with left := S.left - 1, used := S.used + 1 }).2
    else if (rdL b p).1.2.2.1 = 20 then
      (if (rdL b p).1.2.2.2.1 < E.funcs.length then
        (if (execP E f (E.funcs.getD (rdL b p).1.2.2.2.1.toNat []) 0 { S with left := S.left - 1, used := S.used + 1, stk := [] }).2 = 0 then
          execP E f b (rdL b p).1.2.1 { (execP E f (E.funcs.getD (rdL b p).1.2.2.2.1.toNat []) 0 { S with left := S.left - 1, used := S.used + 1, stk := [] }).1 with stk := S.stk }
        else ({ (execP E f (E.funcs.getD (rdL b p).1.2.2.2.1.toNat []) 0 { S with left := S.left - 1, used := S.used + 1, stk := [] }).1 with stk := S.stk }, (execP E f (E.funcs.getD (rdL b p).1.2.2.2.1.toNat []) 0 { S with left := S.left - 1, used := S.used + 1, stk := [] }).2))
      else ({ S with left := S.left - 1, used := S.used + 1 }, 20))
    else if (doP E { S with left := S.left - 1, used := S.used + 1 } (rdL b p).1.2.2.1 (rdL b p).1.2.2.2.1 (rdL b p).1.2.2.2.2).2 = 0 then
      execP E f b (rdL b p).1.2.1 (doP E { S with left := S.left - 1, used := S.used + 1 } (rdL b p).1.2.2.1 (rdL b p).1.2.2.2.1 (rdL b p).1.2.2.2.2).1
    else doP E { S with left := S.left - 1, used := S.used + 1 } (rdL b p).1.2.2.1 (rdL b p).1.2.2.2.1 (rdL b p).1.2.2.2.2

/-- What stays within the bounds. -/
structure Keeps (S S' : St) : Prop where
  left : S'.left = S.left
  used : S'.used = S.used
  stk : S'.stk.length ≤ S.stk.length + 2
theorem popS_keeps (S : St) : (popS S).2.left = S.left ∧ (popS S).2.used = S.used ∧ (popS S).2.stk.length ≤ S.stk.length := by
  refine ⟨?_, ?_, popS_hi S⟩ <;> (unfold popS; split <;> rfl)
theorem operateP_keeps (S : St) (s a : Int) : Keeps S (operateP S s a).1 := by
  have h1 := popS_keeps S
  have h2 := popS_keeps (popS S).2
  unfold operateP
  split
  · exact ⟨h1.1, h1.2.1, by simp [pushS]; omega⟩
  split
  · exact ⟨h1.1, h1.2.1, by simp [pushS]; omega⟩
  split
  · exact ⟨h1.1, h1.2.1, by simp; omega⟩
  split
  · exact ⟨h1.1, h1.2.1, by simp [pushS]; omega⟩
  split
  · exact ⟨h2.1.trans h1.1, h2.2.1.trans h1.2.1, by simp [pushS]; omega⟩
  · exact ⟨h2.1.trans h1.1, h2.2.1.trans h1.2.1, by simp; omega⟩
theorem memoryP_keeps (E : Env) (S : St) (s a : Int) : Keeps S (memoryP E S s a).1 := by
  have h1 := popS_keeps S
  have h2 := popS_keeps (popS S).2
  unfold memoryP
  split
  · simp only
    split
    · exact ⟨rfl, rfl, by simp [pushS]⟩
    · exact ⟨rfl, rfl, by omega⟩
  split
  · simp only
    split
    · exact ⟨h1.1, h1.2.1, by simp; omega⟩
    · exact ⟨h1.1, h1.2.1, by omega⟩
  split
  · split
    · exact ⟨h1.1, h1.2.1, by simp [pushS]; omega⟩
    · exact ⟨h1.1, h1.2.1, by simp; omega⟩
  split
  · split
    · exact ⟨h2.1.trans h1.1, h2.2.1.trans h1.2.1, by simp; omega⟩
    · exact ⟨h2.1.trans h1.1, h2.2.1.trans h1.2.1, by simp; omega⟩
  split
  · simp only [blockP]
    split
    · exact ⟨rfl, rfl, by simp⟩
    · exact ⟨rfl, rfl, by omega⟩
  · exact operateP_keeps S s a
theorem doP_keeps (E : Env) (S : St) (s a n : Int) : Keeps S (doP E S s a n).1 := by
  have h1 := popS_keeps S
  unfold doP
  split
  · exact ⟨rfl, rfl, by simp [pushS]⟩
  split
  · simp only
    split
    · exact ⟨rfl, rfl, by simp [pushS]⟩
    · exact ⟨rfl, rfl, by omega⟩
  split
  · simp only
    split
    · exact ⟨rfl, rfl, by simp [pushS]⟩
    · exact ⟨rfl, rfl, by omega⟩
  split
  · simp only
    split
    · unfold setOut
      split
      · exact ⟨h1.1, h1.2.1, by simp; omega⟩
      split
      · exact ⟨h1.1, h1.2.1, by simp; omega⟩
      split
      · exact ⟨h1.1, h1.2.1, by simp; omega⟩
      · exact ⟨h1.1, h1.2.1, by simp; omega⟩
    · exact ⟨h1.1, h1.2.1, by omega⟩
  split
  · exact ⟨rfl, rfl, by simp [pushS]⟩
  · exact memoryP_keeps E S s a

/-- A byte, or what stands for one that is none. -/
theorem rdL_bytes {b : List Int} (hb : ∀ x ∈ b, 0 ≤ x ∧ x < 256) (p : Int) : 0 ≤ (rdL b p).1.2.2.2.1 ∧ (rdL b p).1.2.2.2.1 < 256 := by
  have hg : ∀ i, 0 ≤ b.getD i 0 ∧ b.getD i 0 < 256 := fun i => by
    rw [List.getD_eq_getElem?_getD]
    cases hx : b[i]? with
    | none => simp
    | some x => exact hb x (List.mem_of_getElem? hx)
  unfold rdL rd
  split
  · simp
  split
  · simp
  split
  · simp
  · simp only
    split
    · exact hg _
    · simp
theorem rdL_sign {b : List Int} {p x : Int} (h : (rdL b p).1.2.2.1 = x) (hx : x ≠ 0) : x ∈ b := by
  unfold rdL rd at h
  split at h
  · simp at h; omega
  split at h
  · simp at h; omega
  split at h
  · simp at h; omega
  · simp only at h
    rw [List.getD_eq_getElem?_getD] at h
    cases hy : b[p.toNat]? with
    | none => rw [hy] at h; simp at h; omega
    | some y => rw [hy] at h; simp at h; rw [← h]; exact List.mem_of_getElem? hy

/-- What a run is left with is no more than before. -/
theorem execP_left (E : Env) : ∀ (f : Nat) (b : List Int) (p : Int) (S : St), (execP E f b p S).1.left ≤ S.left ∧ (execP E f b p S).1.used + (execP E f b p S).1.left = S.used + S.left := by
  intro f
  induction f with
  | zero => intro b p S; simp [execP]
  | succ f ih =>
    intro b p S
    have hs : S.left ≠ 0 → S.used + 1 + (S.left - 1) = S.used + S.left := fun h => by omega
    unfold execP
    split
    · simp
    rename_i h0
    have hs := hs h0
    split
    · simp
    split
    · simp; omega
    split
    · have h := ih b (rdL b p).1.2.2.2.1 { S with left := S.left - 1, used := S.used + 1 }
      simp only at h
      omega
    split
    · have h1 := popS_keeps { S with left := S.left - 1, used := S.used + 1 }
      have h := ih b (if (popS { S with left := S.left - 1, used := S.used + 1 }).1.2 = 0 then (rdL b p).1.2.2.2.1 else (rdL b p).1.2.1) (popS { S with left := S.left - 1, used := S.used + 1 }).2
      simp only at h1
      omega
    split
    · have h := ih (E.funcs.getD (rdL b p).1.2.2.2.1.toNat []) 0 { S with left := S.left - 1, used := S.used + 1, stk := [] }
      generalize execP E f (E.funcs.getD (rdL b p).1.2.2.2.1.toNat []) 0 { S with left := S.left - 1, used := S.used + 1, stk := [] } = A at *
      have h2 := ih b (rdL b p).1.2.1 { A.1 with stk := S.stk }
      have e1 : A.1.left ≤ S.left - 1 := h.1
      have e2 : A.1.used + A.1.left = S.used + 1 + (S.left - 1) := h.2
      split
      · split
        · have e3 : (execP E f b (rdL b p).1.2.1 { A.1 with stk := S.stk }).1.left ≤ A.1.left := h2.1
          have e4 : (execP E f b (rdL b p).1.2.1 { A.1 with stk := S.stk }).1.used + (execP E f b (rdL b p).1.2.1 { A.1 with stk := S.stk }).1.left = A.1.used + A.1.left := h2.2
          omega
        · exact ⟨show A.1.left ≤ S.left by omega, show A.1.used + A.1.left = S.used + S.left by omega⟩
      · exact ⟨show S.left - 1 ≤ S.left by omega, show S.used + 1 + (S.left - 1) = S.used + S.left by omega⟩
    have hk := doP_keeps E { S with left := S.left - 1, used := S.used + 1 } (rdL b p).1.2.2.1 (rdL b p).1.2.2.2.1 (rdL b p).1.2.2.2.2
    have hk1 := hk.left
    have hk2 := hk.used
    simp only at hk1 hk2
    split
    · have h := ih b (rdL b p).1.2.1 (doP E { S with left := S.left - 1, used := S.used + 1 } (rdL b p).1.2.2.1 (rdL b p).1.2.2.2.1 (rdL b p).1.2.2.2.2).1
      omega
    · omega
end Go.Proofs.YtngobbbinacomaaDoor
