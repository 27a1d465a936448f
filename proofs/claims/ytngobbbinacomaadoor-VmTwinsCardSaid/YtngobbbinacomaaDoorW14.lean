/- Chapter 14: a run and its budget: with as many as it took it ends so again; with fewer it is out of them. -/
import Derived.Test.YtngobbbinacomaaDoorT14
namespace Go.Proofs.YtngobbbinacomaaDoor
open Go.RowKit Go.Proofs.YtngobbbinacomaaDoor.c11 Go.Proofs.YtngobbbinacomaaDoor.c10
set_option linter.unusedVariables false
set_option linter.unusedSimpArgs false

def St.at_ (S : St) (l u : Nat) : St := { S with left := l, used := u }
theorem popS_at (S : St) (l u : Nat) : popS (S.at_ l u) = ((popS S).1, (popS S).2.at_ l u) := by
  unfold popS St.at_
  cases h : S.stk.getLast? <;> simp [h]
theorem pushS_at (S : St) (l u : Nat) (k : Int) (vs : List Int) : pushS (S.at_ l u) k vs = (pushS S k vs).at_ l u := rfl
theorem setOut_at (S : St) (l u : Nat) (a x : Int) : setOut (S.at_ l u) a x = (setOut S a x).at_ l u := by
  unfold setOut
  split
  · rfl
  split
  · rfl
  split
  · rfl
  · rfl
theorem operateP_at (S : St) (l u : Nat) (s a : Int) : operateP (S.at_ l u) s a = ((operateP S s a).1.at_ l u, (operateP S s a).2) := by
  unfold operateP
  simp only [popS_at, pushS_at]
  split
  · rfl
  split
  · rfl
  split
  · rfl
  split
  · rfl
  split
  · rfl
  · rfl
theorem blockP_at (E : Env) (S : St) (l u : Nat) (a : Int) : blockP E (S.at_ l u) a = (blockP E S a).at_ l u := by
  unfold blockP
  by_cases h : isAt S.cells.length a = true ∧ isAt S.cells.length (a + 5) = true
  · rw [if_pos h, if_pos (by exact h)]; rfl
  · rw [if_neg h, if_neg (by exact h)]
theorem at_cells (S : St) (l u : Nat) : (S.at_ l u).cells = S.cells := rfl
theorem memoryP_at (E : Env) (S : St) (l u : Nat) (s a : Int) : memoryP E (S.at_ l u) s a = ((memoryP E S s a).1.at_ l u, (memoryP E S s a).2) := by
  unfold memoryP
  simp only [popS_at, pushS_at, at_cells, operateP_at, blockP_at]
  split
  · simp only; split <;> first | rfl | (rename_i h; simp [h])
  split
  · simp only; split <;> first | rfl | (rename_i h; simp [h])
  split
  · split <;> rfl
  split
  · split <;> rfl
  split
  · rfl
  · rfl
theorem doP_at (E : Env) (S : St) (l u : Nat) (s a n : Int) : doP E (S.at_ l u) s a n = ((doP E S s a n).1.at_ l u, (doP E S s a n).2) := by
  unfold doP
  simp only [popS_at, pushS_at, memoryP_at, setOut_at]
  split
  · rfl
  split
  · simp only; split <;> first | rfl | (rename_i h; simp [h])
  split
  · simp only; split <;> first | rfl | (rename_i h; simp [h])
  split
  · simp only; split <;> first | rfl | (rename_i h; simp [h])
  split
  · rfl
  · rfl

/-- A run told by its steps: one round. -/
def stepP (E : Env) (ex : List Int → Int → St → St × Int) (b : List Int) (p : Int) (S : St) : St × Int :=
    if (rdL b p).2 ≠ 0 then (S, (rdL b p).2)
    else if (rdL b p).1.2.2.1 = 0 then (S, 0)
    else if (rdL b p).1.2.2.1 = 18 then ex b (rdL b p).1.2.2.2.1 S
    else if (rdL b p).1.2.2.1 = 19 then
      ex b (if (popS S).1.2 = 0 then (rdL b p).1.2.2.2.1 else (rdL b p).1.2.1) (popS S).2
    else if (rdL b p).1.2.2.1 = 20 then
      (if (rdL b p).1.2.2.2.1 < E.funcs.length then
        (if (ex (E.funcs.getD (rdL b p).1.2.2.2.1.toNat []) 0 { S with stk := [] }).2 = 0 then
          ex b (rdL b p).1.2.1 { (ex (E.funcs.getD (rdL b p).1.2.2.2.1.toNat []) 0 { S with stk := [] }).1 with stk := S.stk }
        else ({ (ex (E.funcs.getD (rdL b p).1.2.2.2.1.toNat []) 0 { S with stk := [] }).1 with stk := S.stk }, (ex (E.funcs.getD (rdL b p).1.2.2.2.1.toNat []) 0 { S with stk := [] }).2))
      else (S, 20))
    else if (doP E S (rdL b p).1.2.2.1 (rdL b p).1.2.2.2.1 (rdL b p).1.2.2.2.2).2 = 0 then
      ex b (rdL b p).1.2.1 (doP E S (rdL b p).1.2.2.1 (rdL b p).1.2.2.2.1 (rdL b p).1.2.2.2.2).1
    else doP E S (rdL b p).1.2.2.1 (rdL b p).1.2.2.2.1 (rdL b p).1.2.2.2.2

theorem exec_step (E : Env) (f : Nat) (b : List Int) (p : Int) (S : St) (h : S.left ≠ 0) (hr : (rdL b p).2 = 0) :
    execP E (f + 1) b p S = stepP E (execP E f) b p { S with left := S.left - 1, used := S.used + 1 } := by
  rw [execP, if_neg h, if_neg (show ¬ (rdL b p).2 ≠ 0 by simp [hr])]
  unfold stepP
  rw [if_neg (show ¬ (rdL b p).2 ≠ 0 by simp [hr])]
theorem exec_bad (E : Env) (f : Nat) (b : List Int) (p : Int) (S : St) (h : S.left ≠ 0) (hr : (rdL b p).2 ≠ 0) : execP E (f + 1) b p S = (S, (rdL b p).2) := by
  rw [execP, if_neg h, if_pos hr]

/-- The errors of bytes that can't be read, or the budget's. -/
def Bad (x : Int) : Prop := x = 23 ∨ x = 8 ∨ x = 10 ∨ x = 12
theorem rdL_err (b : List Int) (p : Int) (h : (rdL b p).2 ≠ 0) : Bad (rdL b p).2 := by
  unfold rdL rd at *
  unfold Bad
  split
  · simp
  · rename_i h1
    rw [if_neg h1] at h
    split
    · simp
    · rename_i h2
      rw [if_neg h2] at h
      split
      · simp
      · rename_i h3
        rw [if_neg h3] at h
        simp at h

theorem at_at (S : St) (l u l' u' : Nat) : (S.at_ l u).at_ l' u' = S.at_ l' u' := rfl

/-- What a run needs: told as a run that ends, however much there is left. -/
theorem exec_need (E : Env) : ∀ (f : Nat) (b : List Int) (p : Int) (S R : St) (x : Int), execP E f b p S = (R, x) → ¬ Bad x → S.left < f →
    ∃ d, R.left + d = S.left ∧ R.used = S.used + d ∧ ∀ f' l u, l < f' → (d ≤ l → execP E f' b p (S.at_ l u) = (R.at_ (l - d) (u + d), x)) ∧ (l < d → (execP E f' b p (S.at_ l u)).2 = 23 ∧ (execP E f' b p (S.at_ l u)).1.used = u + l ∧ (execP E f' b p (S.at_ l u)).1.left = 0) := by
  intro f
  induction f with
  | zero => intro b p S R x h hx hl; omega
  | succ f ih =>
    intro b p S R x h hx hl
    by_cases h0 : S.left = 0
    · rw [ex_trip h0] at h
      exact absurd (.inl (by have := congrArg Prod.snd h; exact this.symm)) hx
    by_cases hr0 : (rdL b p).2 ≠ 0
    · have hr := hr0
      rw [exec_bad E f b p S h0 hr] at h
      have := congrArg Prod.snd h
      simp only at this
      exact absurd (this ▸ rdL_err b p hr) hx
    have hr : (rdL b p).2 = 0 := by simpa using hr0
    rw [exec_step E f b p S h0 hr] at h
    -- what it takes to tell one round
    have key : ∃ d, R.left + d = S.left - 1 ∧ R.used = S.used + 1 + d ∧ ∀ f' l u, l < f' → (d ≤ l → stepP E (execP E f') b p (S.at_ l u) = (R.at_ (l - d) (u + d), x)) ∧ (l < d → (stepP E (execP E f') b p (S.at_ l u)).2 = 23 ∧ (stepP E (execP E f') b p (S.at_ l u)).1.used = u + l ∧ (stepP E (execP E f') b p (S.at_ l u)).1.left = 0) := by
      have hl' : S.left - 1 < f := by omega
      unfold stepP at h ⊢
      simp only [hr, ne_eq, not_true_eq_false, if_false] at h ⊢
      by_cases c0 : (rdL b p).1.2.2.1 = 0
      · simp only [c0, if_true] at h ⊢
        injection h with h1 h2
        subst h1 h2
        exact ⟨0, rfl, rfl, fun f' l u hf => ⟨fun _ => rfl, fun h => absurd h (by omega)⟩⟩
      simp only [c0, if_false] at h ⊢
      by_cases c18 : (rdL b p).1.2.2.1 = 18
      · simp only [c18, if_true] at h ⊢
        obtain ⟨d, h1, h2, h3⟩ := ih _ _ _ _ _ h hx hl'
        exact ⟨d, h1, h2, fun f' l u hf => h3 f' l u hf⟩
      simp only [c18, if_false] at h ⊢
      by_cases c19 : (rdL b p).1.2.2.1 = 19
      · simp only [c19, if_true] at h ⊢
        have e := popS_at S (S.left - 1) (S.used + 1)
        have e' : popS { S with left := S.left - 1, used := S.used + 1 } = ((popS S).1, (popS S).2.at_ (S.left - 1) (S.used + 1)) := e
        rw [e'] at h
        simp only at h
        obtain ⟨d, h1, h2, h3⟩ := ih _ _ _ _ _ h hx hl'
        refine ⟨d, h1, h2, fun f' l u hf => ?_⟩
        rw [popS_at]
        exact h3 f' l u hf
      simp only [c19, if_false] at h ⊢
      by_cases c20 : (rdL b p).1.2.2.1 = 20
      · simp only [c20, if_true] at h ⊢
        by_cases ca : (rdL b p).1.2.2.2.1 < E.funcs.length
        · simp only [ca, if_true] at h ⊢
          obtain ⟨A, hA⟩ : ∃ A, execP E f (E.funcs.getD (rdL b p).1.2.2.2.1.toNat []) 0 { S with left := S.left - 1, used := S.used + 1, stk := [] } = A := ⟨_, rfl⟩
          obtain ⟨A1, A2⟩ := A
          rw [hA] at h
          simp only at h
          by_cases hz : A2 = 0
          · subst hz
            simp only [if_true] at h
            obtain ⟨d1, g1, g2, g3⟩ := ih _ _ _ _ _ hA (by unfold Bad; omega) hl'
            have g1' : A1.left + d1 = S.left - 1 := g1
            have g2' : A1.used = S.used + 1 + d1 := g2
            obtain ⟨d2, k1, k2, k3⟩ := ih _ _ _ _ _ h hx (by show A1.left < f; omega)
            have k1' : R.left + d2 = A1.left := k1
            have k2' : R.used = A1.used + d2 := k2
            refine ⟨d1 + d2, by omega, by omega, fun f' l u hf => ?_⟩
            obtain ⟨q1, q2⟩ := g3 f' l u hf
            have q1' : d1 ≤ l → execP E f' (E.funcs.getD (rdL b p).1.2.2.2.1.toNat []) 0 { S.at_ l u with stk := [] } = (A1.at_ (l - d1) (u + d1), 0) := q1
            have q2' : l < d1 → (execP E f' (E.funcs.getD (rdL b p).1.2.2.2.1.toNat []) 0 { S.at_ l u with stk := [] }).2 = 23 ∧ (execP E f' (E.funcs.getD (rdL b p).1.2.2.2.1.toNat []) 0 { S.at_ l u with stk := [] }).1.used = u + l ∧ (execP E f' (E.funcs.getD (rdL b p).1.2.2.2.1.toNat []) 0 { S.at_ l u with stk := [] }).1.left = 0 := q2
            by_cases hd : d1 ≤ l
            · rw [q1' hd]
              simp only [if_true]
              obtain ⟨r1, r2⟩ := k3 f' (l - d1) (u + d1) (by omega)
              refine ⟨fun hh => (r1 (by omega)).trans ?_, fun hh => ?_⟩
              · rw [show l - d1 - d2 = l - (d1 + d2) by omega, show u + d1 + d2 = u + (d1 + d2) by omega]
              · obtain ⟨s1, s2, s3⟩ := r2 (by omega)
                exact ⟨s1, s2.trans (by omega), s3⟩
            · obtain ⟨s1, s2, s3⟩ := q2' (by omega)
              refine ⟨fun hh => by omega, fun _ => ?_⟩
              rw [if_neg (by rw [s1]; decide)]
              exact ⟨s1, s2, s3⟩
          · simp only [hz, if_false] at h
            injection h with h1 h2
            subst h1 h2
            obtain ⟨d1, g1, g2, g3⟩ := ih _ _ _ _ _ hA hx hl'
            refine ⟨d1, g1, g2, fun f' l u hf => ?_⟩
            obtain ⟨q1, q2⟩ := g3 f' l u hf
            have q1' : d1 ≤ l → execP E f' (E.funcs.getD (rdL b p).1.2.2.2.1.toNat []) 0 { S.at_ l u with stk := [] } = (A1.at_ (l - d1) (u + d1), A2) := q1
            have q2' : l < d1 → (execP E f' (E.funcs.getD (rdL b p).1.2.2.2.1.toNat []) 0 { S.at_ l u with stk := [] }).2 = 23 ∧ (execP E f' (E.funcs.getD (rdL b p).1.2.2.2.1.toNat []) 0 { S.at_ l u with stk := [] }).1.used = u + l ∧ (execP E f' (E.funcs.getD (rdL b p).1.2.2.2.1.toNat []) 0 { S.at_ l u with stk := [] }).1.left = 0 := q2
            by_cases hd : d1 ≤ l
            · refine ⟨fun _ => ?_, fun hh => by omega⟩
              rw [q1' hd]
              simp only [hz, if_false]
              rfl
            · obtain ⟨s1, s2, s3⟩ := q2' (by omega)
              refine ⟨fun hh => by omega, fun _ => ?_⟩
              rw [if_neg (by rw [s1]; decide)]
              exact ⟨s1, s2, s3⟩
        · simp only [ca, if_false] at h ⊢
          injection h with h1 h2
          subst h1 h2
          exact ⟨0, rfl, rfl, fun f' l u hf => ⟨fun _ => rfl, fun h => absurd h (by omega)⟩⟩
      simp only [c20, if_false] at h ⊢
      have e' : doP E { S with left := S.left - 1, used := S.used + 1 } (rdL b p).1.2.2.1 (rdL b p).1.2.2.2.1 (rdL b p).1.2.2.2.2 = _ := doP_at E S (S.left - 1) (S.used + 1) _ _ _
      rw [e'] at h
      simp only at h
      by_cases hd : (doP E S (rdL b p).1.2.2.1 (rdL b p).1.2.2.2.1 (rdL b p).1.2.2.2.2).2 = 0
      · simp only [hd, if_true] at h
        obtain ⟨d, h1, h2, h3⟩ := ih _ _ _ _ _ h hx hl'
        refine ⟨d, h1, h2, fun f' l u hf => ?_⟩
        rw [doP_at]
        simp only [hd, if_true]
        exact h3 f' l u hf
      · simp only [hd, if_false] at h
        injection h with h1 h2
        subst h1 h2
        refine ⟨0, rfl, rfl, fun f' l u hf => ⟨fun _ => ?_, fun h => absurd h (by omega)⟩⟩
        rw [doP_at]
        simp only [hd, if_false]
        rfl
    obtain ⟨d, h1, h2, h3⟩ := key
    refine ⟨d + 1, by omega, by omega, fun f' l u hf => ?_⟩
    obtain ⟨f'', rfl⟩ : ∃ f'', f' = f'' + 1 := ⟨f' - 1, by omega⟩
    by_cases hl0 : l = 0
    · subst hl0
      rw [ex_trip (show (S.at_ 0 u).left = 0 from rfl)]
      exact ⟨fun h => absurd h (by omega), fun _ => ⟨rfl, rfl, rfl⟩⟩
    · rw [exec_step E f'' b p (S.at_ l u) hl0 hr]
      obtain ⟨q1, q2⟩ := h3 f'' (l - 1) (u + 1) (by omega)
      have e : ({ S.at_ l u with left := (S.at_ l u).left - 1, used := (S.at_ l u).used + 1 } : St) = S.at_ (l - 1) (u + 1) := rfl
      rw [e]
      refine ⟨fun hh => (q1 (by omega)).trans ?_, fun hh => ?_⟩
      · rw [show l - 1 - d = l - (d + 1) by omega, show u + 1 + d = u + (d + 1) by omega]
      · obtain ⟨s1, s2, s3⟩ := q2 (by omega)
        exact ⟨s1, s2.trans (by omega), s3⟩
end Go.Proofs.YtngobbbinacomaaDoor
