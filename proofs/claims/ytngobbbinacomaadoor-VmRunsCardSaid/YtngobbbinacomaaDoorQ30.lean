/- Chapter 14: the chapter's example; two values and one sign. -/
import Derived.Test.YtngobbbinacomaaDoorQ18
import Derived.Test.YtngobbbinacomaaDoorQ26
namespace Go.Proofs.YtngobbbinacomaaDoor
open Go.RowKit Go.Proofs.YtngobbbinacomaaDoor.c11 Go.Proofs.YtngobbbinacomaaDoor.c10
set_option linter.unusedVariables false
set_option linter.unusedSimpArgs false
attribute [local go_sem ↓] Go.wp_at_zero Go.wp_at_succ
def kb : List Int := [24, 1, 25, 2, 0]
theorem kb_run (La : Option Addr) (Lc f g : Nat) : execP (atLay (env1 kb f g 0 9 0 0 0) La Lc) 6 kb 0 ⟨[], 1, 0, 0, 0, 5, 0, []⟩ = (⟨[], 1, 0, 9, 0, 2, 3, []⟩, 0) := by kernel_rfl
def sb (s : Int) : List Int := [24, 0, 24, 1, s, 25, 3, 0]
theorem kb_ok : (∀ x ∈ kb, 0 ≤ x ∧ x < 256) ∧ (∀ x ∈ kb, x ≠ 27) ∧ kb.length ≤ 4611686018427387904 := by decide
/-- What a run answers with, its error and all. -/
def Ran (w : World) (o0 o1 o2 o3 : Int) (used : Nat) (x : Int) (e : Ending) (w' : World) : Prop :=
  Below w.heap.size w w' ∧ ∃ A c, e = .returned (.tuple #[.slice A 0 c, .agg #[.int .i64 o0, .int .i64 o1, .int .i64 o2, .int .i64 o3], .int .i64 used, .int .i64 x])
theorem runA {w : World} {f g : Nat} (h : CodeIn w w.heap.size f g kb) : Calls Tryd.prog 22 #[.agg #[.slice none 0 0, .slice none 0 0, .slice (some ⟨f, 0, none⟩) 1 1], .slice none 0 0, .agg #[.int .i64 0, .int .i64 0, .int .i64 0, .int .i64 0], .agg #[.int .i64 0, .int .i64 0, .int .i64 0, .int .i64 0], .int .i64 0, .int .i64 0] w
    (Ran w 0 0 0 0 0 23) := by
  refine (run1 h kb_ok.1 kb_ok.2.1 kb_ok.2.2 0 0 0 0 0 0 0 0 0 0 (by decide) (fun La Lc => ex_trip rfl) rfl).mono ?_
  rintro e w' ⟨hb, v, he, hv⟩
  obtain ⟨A, c, rfl, _, _⟩ := own_slice hv
  exact ⟨hb, A, c, by simpa using he⟩
theorem runB {w : World} {f g : Nat} (h : CodeIn w w.heap.size f g kb) : Calls Tryd.prog 22 #[.agg #[.slice none 0 0, .slice none 0 0, .slice (some ⟨f, 0, none⟩) 1 1], .slice none 0 0, .agg #[.int .i64 0, .int .i64 9, .int .i64 0, .int .i64 0], .agg #[.int .i64 1, .int .i64 0, .int .i64 0, .int .i64 0], .int .i64 0, .int .i64 5] w
    (Ran w 1 0 9 0 3 0) := by
  refine (run1 h kb_ok.1 kb_ok.2.1 kb_ok.2.2 0 9 0 0 1 0 0 0 0 5 (by decide) (fun La Lc => kb_run La Lc f g) rfl).mono ?_
  rintro e w' ⟨hb, v, he, hv⟩
  obtain ⟨A, c, rfl, _, _⟩ := own_slice hv
  exact ⟨hb, A, c, by simpa using he⟩
end Go.Proofs.YtngobbbinacomaaDoor

/- Chapter 14: a run and its budget: with as many as it took it ends so again; with fewer it is out of them. -/
namespace Go.Proofs.YtngobbbinacomaaDoor
open Go.RowKit Go.Proofs.YtngobbbinacomaaDoor.c11 Go.Proofs.YtngobbbinacomaaDoor.c10
set_option linter.unusedVariables false
set_option linter.unusedSimpArgs false
def St.at_ (S : St) (l u : Nat) : St := { S with left := l, used := u }
end Go.Proofs.YtngobbbinacomaaDoor

/- Chapter 12's code of numbers is read from each instruction's first byte; what a run of it needs. -/
namespace Go.Proofs.YtngobbbinacomaaDoor
open Go.RowKit Go.Proofs.YtngobbbinacomaaDoor.c11 Go.Proofs.YtngobbbinacomaaDoor.c10
set_option linter.unusedVariables false
set_option linter.unusedSimpArgs false
/-- A place of made code, and the stack there. -/
def NextAt (sp : List (Nat × List Int)) (n : Nat) (st : List Int) (q : Int) (o : List Int) : Prop := (q = n ∧ o = st) ∨ ∃ x ∈ sp, q = x.1 ∧ x.2 = o
theorem NextAt.snoc {sp : List (Nat × List Int)} {n n' : Nat} {st st' : List Int} {q : Int} {o : List Int} (h : NextAt sp n st q o) : NextAt (sp ++ [(n, st)]) n' st' q o := by
  rcases h with ⟨h1, h2⟩ | ⟨x, hx, h1, h2⟩
  · exact .inr ⟨(n, st), by simp, h1, h2.symm⟩
  · exact .inr ⟨x, by simp [hx], h1, h2⟩
theorem PickOk.more {cells : List CellD} {st : List Int} {funcs at_ : Int} {sp : List (Nat × List Int)} {s a N : Int} (h : PickOk cells st funcs at_ sp s a N) (y : Nat × List Int) : PickOk cells st funcs at_ (sp ++ [y]) s a N :=
  { h with jz := fun hs => (h.jz hs).elim .inl fun ⟨x, hx, h1⟩ => .inr ⟨x, by simp [hx], h1⟩ }
theorem du_jz {cells : List CellD} {a : Nat} {st o : List Int} (h : doesU cells 19 a st = some o) : o = st.dropLast := by
  rcases nil_or_app st with rfl | ⟨r, b, rfl⟩
  · simp [doesU, takesN] at h
  · simp [doesU, takesN, does1] at h
    simp [h.2]
/-- What is read at a place of made code. -/
structure ReadAt (cells : List CellD) (funcs : Int) (sp : List (Nat × List Int)) (n : Nat) (st : List Int) (l : List Int) (p : Int) (o : List Int) (s a N : Int) (out : List Int) : Prop where
  rd : rdL l p = ((p, p + 1 + bearsN s, s, if 0 < bearsN s then a else 0, if s = 1 then N else 0), 0)
  pick : PickOk cells o funcs p sp s a N
  does : doesU cells s a.toNat o = some out
  len : out.length ≤ 8
  next : NextAt sp n st (p + 1 + bearsN s) out
  jump : s = 19 → NextAt sp n st a out
theorem Made.read {cells : List CellD} {funcs : Int} {sp : List (Nat × List Int)} {bs st : List Int} (h : Made cells funcs sp bs st) : ∀ (rest : List Int) (x : Nat × List Int), x ∈ sp → ∃ s a N out, ReadAt cells funcs sp bs.length st (bs ++ rest) x.1 x.2 s a N out := by
  induction h with
  | nil => intro rest x hx; cases hx
  | @snoc sp bs st out s a N h hp hd ho ih =>
    intro rest x hx
    rcases List.mem_append.1 hx with hx | hx
    · obtain ⟨s', a', N', o', hr⟩ := ih (encB s a N ++ rest) x hx
      refine ⟨s', a', N', o', ?_, hr.pick.more _, hr.does, hr.len, hr.next.snoc, fun h => (hr.jump h).snoc⟩
      rw [List.append_assoc]
      exact hr.rd
    · simp at hx
      subst hx
      have hs0 := hp.s0
      have hs29 := hp.s29
      have hel := Go.Proofs.YtngobbbinacomaaDoor.c10.encB_length s a N
      have hrd := rd_enc (bs ++ encB s a N ++ rest) bs.length s a N rest (by simp) (by omega) (by omega) hp.a0 hp.a256 hp.nI
      have hnx : NextAt (sp ++ [(bs.length, st)]) (bs ++ encB s a N).length out ((bs.length : Int) + 1 + bearsN s) out := .inl ⟨by rw [List.length_append]; omega, rfl⟩
      refine ⟨s, a, N, out, hrd, hp.more _, hd, ho, hnx, fun h19 => ?_⟩
      rcases hp.jz h19 with h | ⟨y, hy, h1, h2⟩
      · subst h19
        have hb19 : bearsN 19 = 1 := rfl
        exact .inl ⟨by rw [List.length_append]; omega, rfl⟩
      · refine .inr ⟨y, by simp [hy], h1, h2.trans ?_⟩
        subst h19
        exact (du_jz hd).symm
theorem Made.first {cells : List CellD} {funcs : Int} {sp : List (Nat × List Int)} {bs st : List Int} (h : Made cells funcs sp bs st) : NextAt sp bs.length st 0 [] := by
  induction h with
  | nil => exact .inl ⟨rfl, rfl⟩
  | snoc h hp hd ho ih => exact ih.snoc
/-- A function of numbers, whatever it may call. -/
def Func12 (cells : List CellD) (b : List Int) : Prop := ∃ (funcs : Int) (sp : List (Nat × List Int)) (bs st : List Int), Made cells funcs sp bs st ∧ bs.length ≤ 99 ∧ b = bs ++ [0]
/-- Places of such a function. -/
def Place12 (cells : List CellD) (b : List Int) (p : Int) : Prop := ∃ (funcs : Int) (sp : List (Nat × List Int)) (bs st o : List Int), Made cells funcs sp bs st ∧ bs.length ≤ 99 ∧ b = bs ++ [0] ∧ NextAt sp bs.length st p o
theorem Place12.read {cells : List CellD} {b : List Int} {p : Int} (h : Place12 cells b p) : ∃ nx s a N : Int, rdL b p = ((p, nx, s, a, N), 0) ∧ s ≠ 18 ∧ (s ≠ 0 → Place12 cells b nx) ∧ (s = 19 → Place12 cells b a) ∧ 0 ≤ a := by
  obtain ⟨funcs, sp, bs, st, o, h1, h2, rfl, h4⟩ := h
  rcases h4 with ⟨rfl, rfl⟩ | ⟨x, hx, rfl, rfl⟩
  · have hrd := rd_enc (bs ++ [0]) bs.length 0 0 0 [] (by simp [encB, bearsN]) (by decide) (by decide) (by decide) (by decide) (by unfold I64; omega)
    exact ⟨_, 0, _, _, hrd, by decide, fun h => absurd rfl h, fun h => absurd h (by decide), by simp [bearsN]⟩
  · obtain ⟨s, a, N, out, hr⟩ := h1.read [0] x hx
    have hp := hr.pick
    refine ⟨_, s, _, _, hr.rd, hp.s18, fun _ => ⟨funcs, sp, bs, st, out, h1, h2, rfl, hr.next⟩, fun h19 => ?_, ?_⟩
    · subst h19
      rw [if_pos (by decide)]
      exact ⟨funcs, sp, bs, st, out, h1, h2, rfl, hr.jump rfl⟩
    · have := hp.a0
      split <;> omega
theorem execP_lay (E : Env) (La : Option Addr) (Lc : Nat) : ∀ (f : Nat) (b : List Int) (p : Int) (S : St), execP (atLay E La Lc) f b p S = execP E f b p S := by
  intro f
  induction f with
  | zero => intro b p S; rfl
  | succ f ih =>
    intro b p S
    have hd : ∀ S s a n, doP (atLay E La Lc) S s a n = doP E S s a n := fun _ _ _ _ => rfl
    have hf : (atLay E La Lc).funcs = E.funcs := rfl
    simp only [execP, ih, hd, hf]
end Go.Proofs.YtngobbbinacomaaDoor
