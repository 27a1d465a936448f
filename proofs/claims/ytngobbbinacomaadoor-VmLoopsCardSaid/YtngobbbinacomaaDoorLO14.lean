/- Chapter 14: the runs of VmLoops, plain: a jump to itself, and a loop that counts down. -/
import Derived.Test.YtngobbbinacomaaDoorW14
import Derived.KernelRfl
namespace Go.Proofs.YtngobbbinacomaaDoor
open Go.RowKit Go.Proofs.YtngobbbinacomaaDoor.c11 Go.Proofs.YtngobbbinacomaaDoor.c10
set_option linter.unusedVariables false
set_option linter.unusedSimpArgs false

def jb : List Int := [18, 0]
theorem jb_run (E : Env) : ∀ (n f : Nat) (S : St), S.left = n → execP E f jb 0 S = (S.at_ (S.left - min S.left f) (S.used + min S.left f), 23) := by
  intro n
  induction n with
  | zero =>
    intro f S h
    rw [ex_trip h, h]
    simp [St.at_]
    rw [← h]
  | succ n ih =>
    intro f S h
    cases f with
    | zero => simp [execP, St.at_]
    | succ f =>
      rw [exec_step E f jb 0 S (by omega) rfl]
      have hr : stepP E (execP E f) jb 0 { S with left := S.left - 1, used := S.used + 1 } = execP E f jb 0 { S with left := S.left - 1, used := S.used + 1 } := rfl
      rw [hr, ih f _ (by show S.left - 1 = n; omega)]
      show (St.at_ _ (S.left - 1 - min (S.left - 1) f) (S.used + 1 + min (S.left - 1) f), (23 : Int)) = (St.at_ S (S.left - min S.left (f + 1)) (S.used + min S.left (f + 1)), 23)
      rw [show S.left - 1 - min (S.left - 1) f = S.left - min S.left (f + 1) by omega, show S.used + 1 + min (S.left - 1) f = S.used + min S.left (f + 1) by omega]
      rfl

def lb : List Int := [24, 0, 4, 0, 3, 0, 2, 0, 8, 4, 0, 3, 0, 2, 1, 16, 19, 4, 3, 0, 25, 0, 0]
def lS : SymD := ⟨{ data := #[120] }, 5, 0, 0, [], false, [0]⟩
def envL (SA Ca Fa Ga : Option Addr) (i0 : Int) (La : Option Addr) (Lc : Nat) : Env :=
  ⟨.slice SA 1 1, [1, 0], Ca, 2, [lb], fun _ => Ga, fun _ => 23, Fa, 1, cellsOf [lS], La, Lc, i0, 0, 0, 0, 0⟩
theorem lb_run (SA Ca Fa Ga La : Option Addr) (Lc : Nat) (n : Nat) (hn : n < 20) :
    execP (envL SA Ca Fa Ga (1 + n) La Lc) (2 + 8 * (1 + n) + 3 + 1) lb 0 ⟨[0], 5, 0, 0, 0, 2 + 8 * (1 + n) + 3, 0, []⟩ = (⟨[0], 0, 0, 0, 0, 0, 2 + 8 * (1 + n) + 3, []⟩, 0) := by
  rcases (show n = 0 ∨ n = 1 ∨ n = 2 ∨ n = 3 ∨ n = 4 ∨ n = 5 ∨ n = 6 ∨ n = 7 ∨ n = 8 ∨ n = 9 ∨ n = 10 ∨ n = 11 ∨ n = 12 ∨ n = 13 ∨ n = 14 ∨ n = 15 ∨ n = 16 ∨ n = 17 ∨ n = 18 ∨ n = 19 by omega) with rfl | rfl | rfl | rfl | rfl | rfl | rfl | rfl | rfl | rfl | rfl | rfl | rfl | rfl | rfl | rfl | rfl | rfl | rfl | rfl <;> kernel_rfl
/-- With any budget. -/
theorem lb_any (SA Ca Fa Ga La : Option Addr) (Lc : Nat) (n : Nat) (hn : n < 20) (l f : Nat) (hl : l < f) :
    (2 + 8 * (1 + n) + 3 ≤ l → execP (envL SA Ca Fa Ga (1 + n) La Lc) f lb 0 ⟨[0], 5, 0, 0, 0, l, 0, []⟩ = (⟨[0], 0, 0, 0, 0, l - (2 + 8 * (1 + n) + 3), 2 + 8 * (1 + n) + 3, []⟩, 0)) ∧
    (l < 2 + 8 * (1 + n) + 3 → (execP (envL SA Ca Fa Ga (1 + n) La Lc) f lb 0 ⟨[0], 5, 0, 0, 0, l, 0, []⟩).2 = 23 ∧ (execP (envL SA Ca Fa Ga (1 + n) La Lc) f lb 0 ⟨[0], 5, 0, 0, 0, l, 0, []⟩).1.used = l) := by
  obtain ⟨d, h1, h2, h3⟩ := exec_need _ _ _ _ _ _ _ (lb_run SA Ca Fa Ga La Lc n hn) (by unfold Bad; omega) (Nat.lt_succ_self _)
  simp only at h1 h2
  have hd : d = 2 + 8 * (1 + n) + 3 := by omega
  subst hd
  obtain ⟨q1, q2⟩ := h3 f l 0 hl
  refine ⟨fun h => (q1 h).trans ?_, fun h => ?_⟩
  · simp [St.at_]
  · obtain ⟨s1, s2, s3⟩ := q2 h
    exact ⟨s1, s2.trans (by omega)⟩
end Go.Proofs.YtngobbbinacomaaDoor
