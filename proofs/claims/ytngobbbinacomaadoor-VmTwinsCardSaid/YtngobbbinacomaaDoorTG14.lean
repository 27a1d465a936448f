/- Chapter 12's code of numbers is read from each instruction's first byte; what a run of it needs. -/
import Derived.Test.YtngobbbinacomaaDoorTD14
import Derived.Test.YtngobbbinacomaaDoorW14
namespace Go.Proofs.YtngobbbinacomaaDoor
open Go.RowKit Go.Proofs.YtngobbbinacomaaDoor.c11 Go.Proofs.YtngobbbinacomaaDoor.c10
set_option linter.unusedVariables false
set_option linter.unusedSimpArgs false

/-- A place of made code, and the stack there. -/
def NextAt (sp : List (Nat × List Int)) (n : Nat) (st : List Int) (q : Int) (o : List Int) : Prop := (q = n ∧ o = st) ∨ ∃ x ∈ sp, q = x.1 ∧ x.2 = o
theorem NextAt.snoc {sp : List (Nat × List Int)} {n n' : Nat} {st st' : List Int} {q : Int} {o : List Int} (h : NextAt sp n st q o) : NextAt (sp ++ [(n, st)]) n' st' q o := by
  rcases h with ⟨h1, h2⟩ | ⟨x, hx, h1, h2⟩
  · exact .inr ⟨(n, st), by simp, h1, h2.symm⟩
  · exact .inr ⟨x, by simp [hx], h1, h2⟩
theorem PickOk.more {cells : List CellD} {st : List Int} {funcs at_ : Int} {sp : List (Nat × List Int)} {s a N : Int} (h : PickOk cells st funcs at_ sp s a N) (y : Nat × List Int) : PickOk cells st funcs at_ (sp ++ [y]) s a N :=
  { h with jz := fun hs => (h.jz hs).elim .inl fun ⟨x, hx, h1⟩ => .inr ⟨x, by simp [hx], h1⟩ }
theorem du_jz {cells : List CellD} {a : Nat} {st o : List Int} (h : doesU cells 19 a st = some o) : o = st.dropLast := by
  rcases nil_or_app st with rfl | ⟨r, b, rfl⟩
  · simp [doesU, takesN] at h
  · simp [doesU, takesN, does1] at h
    simp [h.2]

/-- What is read at a place of made code. -/
structure ReadAt (cells : List CellD) (funcs : Int) (sp : List (Nat × List Int)) (n : Nat) (st : List Int) (l : List Int) (p : Int) (o : List Int) (s a N : Int) (out : List Int) : Prop where
  rd : rdL l p = ((p, p + 1 + bearsN s, s, if 0 < bearsN s then a else 0, if s = 1 then N else 0), 0)
  pick : PickOk cells o funcs p sp s a N
  does : doesU cells s a.toNat o = some out
  len : out.length ≤ 8
  next : NextAt sp n st (p + 1 + bearsN s) out
  jump : s = 19 → NextAt sp n st a out

theorem Made.read {cells : List CellD} {funcs : Int} {sp : List (Nat × List Int)} {bs st : List Int} (h : Made cells funcs sp bs st) : ∀ (rest : List Int) (x : Nat × List Int), x ∈ sp → ∃ s a N out, ReadAt cells funcs sp bs.length st (bs ++ rest) x.1 x.2 s a N out := by
  induction h with
  | nil => intro rest x hx; cases hx
  | @snoc sp bs st out s a N h hp hd ho ih =>
    intro rest x hx
    rcases List.mem_append.1 hx with hx | hx
    · obtain ⟨s', a', N', o', hr⟩ := ih (encB s a N ++ rest) x hx
      refine ⟨s', a', N', o', ?_, hr.pick.more _, hr.does, hr.len, hr.next.snoc, fun h => (hr.jump h).snoc⟩
      rw [List.append_assoc]
      exact hr.rd
    · simp at hx
      subst hx
      have hs0 := hp.s0
      have hs29 := hp.s29
      have hel := Go.Proofs.YtngobbbinacomaaDoor.c10.encB_length s a N
      have hrd := rd_enc (bs ++ encB s a N ++ rest) bs.length s a N rest (by simp) (by omega) (by omega) hp.a0 hp.a256 hp.nI
      have hnx : NextAt (sp ++ [(bs.length, st)]) (bs ++ encB s a N).length out ((bs.length : Int) + 1 + bearsN s) out := .inl ⟨by rw [List.length_append]; omega, rfl⟩
      refine ⟨s, a, N, out, hrd, hp.more _, hd, ho, hnx, fun h19 => ?_⟩
      rcases hp.jz h19 with h | ⟨y, hy, h1, h2⟩
      · subst h19
        have hb19 : bearsN 19 = 1 := rfl
        exact .inl ⟨by rw [List.length_append]; omega, rfl⟩
      · refine .inr ⟨y, by simp [hy], h1, h2.trans ?_⟩
        subst h19
        exact (du_jz hd).symm
theorem Made.first {cells : List CellD} {funcs : Int} {sp : List (Nat × List Int)} {bs st : List Int} (h : Made cells funcs sp bs st) : NextAt sp bs.length st 0 [] := by
  induction h with
  | nil => exact .inl ⟨rfl, rfl⟩
  | snoc h hp hd ho ih => exact ih.snoc

/-- A function of numbers, whatever it may call. -/
def Func12 (cells : List CellD) (b : List Int) : Prop := ∃ (funcs : Int) (sp : List (Nat × List Int)) (bs st : List Int), Made cells funcs sp bs st ∧ bs.length ≤ 99 ∧ b = bs ++ [0]
/-- Places of such a function. -/
def Place12 (cells : List CellD) (b : List Int) (p : Int) : Prop := ∃ (funcs : Int) (sp : List (Nat × List Int)) (bs st o : List Int), Made cells funcs sp bs st ∧ bs.length ≤ 99 ∧ b = bs ++ [0] ∧ NextAt sp bs.length st p o
theorem Func12.start {cells : List CellD} {b : List Int} (h : Func12 cells b) : Place12 cells b 0 := by
  obtain ⟨funcs, sp, bs, st, h1, h2, h3⟩ := h
  exact ⟨funcs, sp, bs, st, [], h1, h2, h3, h1.first⟩
theorem Place12.read {cells : List CellD} {b : List Int} {p : Int} (h : Place12 cells b p) : ∃ nx s a N : Int, rdL b p = ((p, nx, s, a, N), 0) ∧ s ≠ 18 ∧ (s ≠ 0 → Place12 cells b nx) ∧ (s = 19 → Place12 cells b a) ∧ 0 ≤ a := by
  obtain ⟨funcs, sp, bs, st, o, h1, h2, rfl, h4⟩ := h
  rcases h4 with ⟨rfl, rfl⟩ | ⟨x, hx, rfl, rfl⟩
  · have hrd := rd_enc (bs ++ [0]) bs.length 0 0 0 [] (by simp [encB, bearsN]) (by decide) (by decide) (by decide) (by decide) (by unfold I64; omega)
    exact ⟨_, 0, _, _, hrd, by decide, fun h => absurd rfl h, fun h => absurd h (by decide), by simp [bearsN]⟩
  · obtain ⟨s, a, N, out, hr⟩ := h1.read [0] x hx
    have hp := hr.pick
    refine ⟨_, s, _, _, hr.rd, hp.s18, fun _ => ⟨funcs, sp, bs, st, out, h1, h2, rfl, hr.next⟩, fun h19 => ?_, ?_⟩
    · subst h19
      rw [if_pos (by decide)]
      exact ⟨funcs, sp, bs, st, out, h1, h2, rfl, hr.jump rfl⟩
    · have := hp.a0
      split <;> omega

/-- No error of reading. -/
def NB (x : Int) : Prop := x ≠ 8 ∧ x ≠ 10 ∧ x ≠ 12
theorem kindE_vals (s a b : Int) : kindE s a b = 0 ∨ kindE s a b = 3 ∨ kindE s a b = 19 := by
  unfold kindE
  split
  · split <;> simp
  · simp
theorem twoE_vals (s a b y : Int) : twoE s a b y = 0 ∨ twoE s a b y = 3 ∨ twoE s a b y = 19 ∨ twoE s a b y = 21 := by
  unfold twoE
  rcases kindE_vals s a b with h | h | h
  · rw [h]
    by_cases hy : (s = 10 ∨ s = 11) ∧ y = 0
    · simp [hy]
    · rw [if_neg (by decide), if_neg hy]; exact .inl rfl
  · rw [h]; simp
  · rw [h]; simp
theorem operateP_vals (S : St) (s a : Int) : (operateP S s a).2 = 0 ∨ (operateP S s a).2 = 3 ∨ (operateP S s a).2 = 19 ∨ (operateP S s a).2 = 21 := by
  unfold operateP
  split
  · exact .inl rfl
  split
  · exact .inl rfl
  split
  · exact .inl rfl
  split
  · exact .inl rfl
  split
  · exact .inl rfl
  · exact twoE_vals _ _ _ _
theorem doP_vals (E : Env) (S : St) (s a n : Int) : (doP E S s a n).2 = 0 ∨ (doP E S s a n).2 = 3 ∨ (doP E S s a n).2 = 19 ∨ (doP E S s a n).2 = 21 ∨ (doP E S s a n).2 = 22 := by
  unfold doP
  split
  · exact .inl rfl
  split
  · exact .inl rfl
  split
  · exact .inl rfl
  split
  · exact .inl rfl
  split
  · exact .inl rfl
  unfold memoryP
  split
  · exact .inl rfl
  split
  · exact .inl rfl
  split
  · split
    · exact .inl rfl
    · unfold indexP; split <;> simp
  split
  · split
    · exact .inl rfl
    · unfold indexP; split <;> simp
  split
  · exact .inl rfl
  · rcases operateP_vals S s a with h | h | h | h <;> simp [h]

/-- A run of such functions ends in no error of reading; out of its budget it has nothing left. -/
theorem exec_nb (E : Env) (cells : List CellD) (hF : ∀ b ∈ E.funcs, Func12 cells b) : ∀ (f : Nat) (b : List Int) (p : Int) (S : St), Place12 cells b p → S.left < f → NB (execP E f b p S).2 ∧ ((execP E f b p S).2 = 23 → (execP E f b p S).1.left = 0) := by
  intro f
  induction f with
  | zero => intro b p S _ h; omega
  | succ f ih =>
    intro b p S hp hl
    obtain ⟨nx, s, a, N, hr, h18, hnx, hj, ha⟩ := hp.read
    rw [execP]
    by_cases h0 : S.left = 0
    · rw [if_pos h0]
      exact ⟨⟨by show (23 : Int) ≠ 8; decide, by show (23 : Int) ≠ 10; decide, by show (23 : Int) ≠ 12; decide⟩, fun _ => h0⟩
    rw [if_neg h0, hr]
    simp only [ne_eq, not_true_eq_false, if_false]
    by_cases hs0 : s = 0
    · rw [if_pos hs0]
      exact ⟨⟨by show (0 : Int) ≠ 8; decide, by show (0 : Int) ≠ 10; decide, by show (0 : Int) ≠ 12; decide⟩, fun h => by cases h⟩
    rw [if_neg hs0, if_neg h18]
    split
    · rename_i h19
      have hk := popS_keeps { S with left := S.left - 1, used := S.used + 1 }
      refine ih b _ _ ?_ (by rw [hk.1]; show S.left - 1 < f; omega)
      split
      · exact hj h19
      · exact hnx hs0
    split
    · split
      · rename_i hlt
        have hm : E.funcs.getD a.toNat [] ∈ E.funcs := by
          rw [List.getD_eq_getElem?_getD, List.getElem?_eq_getElem (by omega)]
          exact List.getElem_mem _
        have h1 := ih (E.funcs.getD a.toNat []) 0 { S with left := S.left - 1, used := S.used + 1, stk := [] } (hF _ hm).start (by show S.left - 1 < f; omega)
        have h2 := execP_left E f (E.funcs.getD a.toNat []) 0 { S with left := S.left - 1, used := S.used + 1, stk := [] }
        split
        · refine ih b nx _ (hnx hs0) ?_
          have h3 : (execP E f (E.funcs.getD a.toNat []) 0 { S with left := S.left - 1, used := S.used + 1, stk := [] }).1.left ≤ S.left - 1 := h2.1
          show (execP E f (E.funcs.getD a.toNat []) 0 { S with left := S.left - 1, used := S.used + 1, stk := [] }).1.left < f
          omega
        · exact ⟨h1.1, fun h => h1.2 h⟩
      · exact ⟨⟨by show (20 : Int) ≠ 8; decide, by show (20 : Int) ≠ 10; decide, by show (20 : Int) ≠ 12; decide⟩, fun h => by cases h⟩
    split
    · have hk := doP_keeps E { S with left := S.left - 1, used := S.used + 1 } s a N
      refine ih b nx _ (hnx hs0) ?_
      have := hk.left
      simp only at this
      omega
    · have hv := doP_vals E { S with left := S.left - 1, used := S.used + 1 } s a N
      refine ⟨by unfold NB; omega, fun h => by omega⟩

theorem execP_lay (E : Env) (La : Option Addr) (Lc : Nat) : ∀ (f : Nat) (b : List Int) (p : Int) (S : St), execP (atLay E La Lc) f b p S = execP E f b p S := by
  intro f
  induction f with
  | zero => intro b p S; rfl
  | succ f ih =>
    intro b p S
    have hd : ∀ S s a n, doP (atLay E La Lc) S s a n = doP E S s a n := fun _ _ _ _ => rfl
    have hf : (atLay E La Lc).funcs = E.funcs := rfl
    simp only [execP, ih, hd, hf]

/-- What a run answers, by its budget. -/
def ranP (E : Env) (zs : List Int) (l : Nat) : St × Int := execP E (l + 1) (E.funcs.getD 0 []) 0 ⟨zs, 0, 0, 0, 0, l, 0, []⟩
theorem callP_ran (E : Env) (hf : 0 < E.funcs.length) (La : Option Addr) (Lc : Nat) (zs : List Int) (l : Nat) : callP (atLay E La Lc) (l + 1) ⟨zs, 0, 0, 0, 0, l, 0, []⟩ 0 = ({ (ranP E zs l).1 with stk := [] }, (ranP E zs l).2) := by
  unfold callP ranP
  rw [if_pos (by show (0 : Int) < E.funcs.length; omega), execP_lay]
  rfl
theorem budget_law (E : Env) (cells : List CellD) (hF : ∀ b ∈ E.funcs, Func12 cells b) (hf : 0 < E.funcs.length) (zs : List Int) (L : Nat) :
    ((ranP E zs L).2 = 23 ∧ (ranP E zs L).1.used = L) ∨ ∃ (d : Nat) (x : Int), x ≠ 23 ∧ 1 ≤ d ∧ d ≤ L ∧ ∀ l, (d ≤ l → (ranP E zs l).2 = x ∧ (ranP E zs l).1.used = d) ∧ (l < d → (ranP E zs l).2 = 23 ∧ (ranP E zs l).1.used = l) := by
  have hm : E.funcs.getD 0 [] ∈ E.funcs := by
    rw [List.getD_eq_getElem?_getD, List.getElem?_eq_getElem hf]
    exact List.getElem_mem _
  obtain ⟨h1, h2⟩ := exec_nb E cells hF (L + 1) (E.funcs.getD 0 []) 0 ⟨zs, 0, 0, 0, 0, L, 0, []⟩ (hF _ hm).start (Nat.lt_succ_self _)
  have h3 := execP_left E (L + 1) (E.funcs.getD 0 []) 0 ⟨zs, 0, 0, 0, 0, L, 0, []⟩
  by_cases hx : (ranP E zs L).2 = 23
  · left
    refine ⟨hx, ?_⟩
    have := h2 hx
    have := h3.2
    unfold ranP
    simp only at this ⊢
    omega
  · right
    obtain ⟨d, k1, k2, k3⟩ := exec_need E (L + 1) (E.funcs.getD 0 []) 0 ⟨zs, 0, 0, 0, 0, L, 0, []⟩ (ranP E zs L).1 (ranP E zs L).2 rfl (by
      unfold Bad
      unfold NB at h1
      intro h
      rcases h with h | h | h | h
      · exact hx h
      · exact h1.1 h
      · exact h1.2.1 h
      · exact h1.2.2 h) (Nat.lt_succ_self _)
    have hd0 : d ≠ 0 := by
      intro hd
      subst hd
      have h0 := (k3 1 0 0 (by omega)).1 (Nat.le_refl _)
      have ht : execP E 1 (E.funcs.getD 0 []) 0 (St.at_ ⟨zs, 0, 0, 0, 0, L, 0, []⟩ 0 0) = (St.at_ ⟨zs, 0, 0, 0, 0, L, 0, []⟩ 0 0, 23) := ex_trip rfl
      rw [ht] at h0
      exact hx (congrArg Prod.snd h0).symm
    refine ⟨d, (ranP E zs L).2, hx, by omega, by simp only at k1; omega, fun l => ?_⟩
    obtain ⟨q1, q2⟩ := k3 (l + 1) l 0 (Nat.lt_succ_self _)
    refine ⟨fun hl => ?_, fun hl => ?_⟩
    · have h := q1 hl
      have e : ranP E zs l = ((ranP E zs L).1.at_ (l - d) (0 + d), (ranP E zs L).2) := h
      rw [e]
      exact ⟨rfl, by show 0 + d = d; omega⟩
    · obtain ⟨r1, r2, r3⟩ := q2 hl
      exact ⟨r1, by have r2' : (ranP E zs l).1.used = 0 + l := r2; omega⟩
end Go.Proofs.YtngobbbinacomaaDoor
