/- Chapter 14: runs of one function. -/
import Derived.Test.YtngobbbinacomaaDoorR14
namespace Go.Proofs.YtngobbbinacomaaDoor
open Go.RowKit Go.Proofs.YtngobbbinacomaaDoor.c11 Go.Proofs.YtngobbbinacomaaDoor.c10
set_option linter.unusedVariables false
set_option linter.unusedSimpArgs false
attribute [local go_sem ↓] Go.wp_at_zero Go.wp_at_succ

theorem ex_trip {E : Env} {f : Nat} {b : List Int} {p : Int} {S : St} (h : S.left = 0) : execP E f b p S = (S, 23) := by
  cases f with
  | zero => rfl
  | succ f => rw [execP, if_pos h]
theorem ex_end {E : Env} {f : Nat} {b : List Int} {p : Int} {S : St} {a0 nx a n : Int} (hr : rdL b p = ((a0, nx, 0, a, n), 0)) (h : S.left ≠ 0) : execP E (f + 1) b p S = ({ S with left := S.left - 1, used := S.used + 1 }, 0) := by
  rw [execP, if_neg h, hr]
  simp
theorem ex_op {E : Env} {f : Nat} {b : List Int} {p : Int} {S : St} {a0 nx s a n : Int} (hr : rdL b p = ((a0, nx, s, a, n), 0)) (h : S.left ≠ 0) (hs : s ≠ 0 ∧ s ≠ 18 ∧ s ≠ 19 ∧ s ≠ 20) {S1 : St} {x : Int}
    (hd : doP E { S with left := S.left - 1, used := S.used + 1 } s a n = (S1, x)) : execP E (f + 1) b p S = if x = 0 then execP E f b nx S1 else (S1, x) := by
  obtain ⟨h1, h2, h3, h4⟩ := hs
  rw [execP, if_neg h, hr]
  simp only [h1, h2, h3, h4, hd, if_false]
  simp

/-- within(a, n) is a modulo n, from 0 on. -/
theorem within14_any (a n : Int) (hn : 0 < n) (hn' : n ≤ 4611686018427387904) (w : World) :
    Calls Tryd.prog 21 #[.int .i64 a, .int .i64 n] w fun e w' => e = .returned (.int .i64 (a % n)) ∧ w = w' := by
  have h1 := Int.emod_nonneg a (show n ≠ 0 by omega)
  have h2 := Int.emod_lt_of_pos a hn
  have h3 : a.tmod n = if 0 ≤ a ∨ a % n = 0 then a % n else a % n - n := by
    rw [Int.tmod_eq_emod]
    by_cases h : 0 ≤ a ∨ n ∣ a
    · rw [if_pos h, if_pos]
      · omega
      · rcases h with h | h
        · exact .inl h
        · exact .inr (Int.emod_eq_zero_of_dvd h)
    · rw [if_neg h, if_neg]
      · rw [Int.natAbs_of_nonneg (by omega)]
      · intro hh
        rcases hh with hh | hh
        · exact h (.inl hh)
        · exact h (.inr (Int.dvd_of_emod_eq_zero hh))
  have h4 : ¬ n = 0 := by omega
  by_cases hneg : a.tmod n < 0
  · have H : Hid (a.tmod n + n = a % n) := Lib.hid (by split at h3 <;> omega)
    have hb : -n < a.tmod n := by split at h3 <;> omega
    clear h3 h1 h2
    go_enter Tryd.func21, Tryd.ntmps21
    go_wp2
    go_ret
    exact ⟨qret H.out, rfl⟩
  · have H : Hid (a.tmod n = a % n) := Lib.hid (by split at h3 <;> omega)
    clear h3 h1 h2
    go_enter Tryd.func21, Tryd.ntmps21
    go_wp2
    go_ret
    exact ⟨qret H.out, rfl⟩

def zeros (n : Nat) : Array Value := Array.replicate n (.int .i64 0)
/-- One function's code, as an image's row holds it. -/
structure CodeIn (w : World) (B f g : Nat) (b : List Int) : Prop where
  cf : w.cell? ⟨f, 0, none⟩ = some (.slice (some ⟨g, 0, none⟩) b.length b.length)
  cg : ∀ j u, (b.map (Value.int .u8))[j]? = some u → w.cell? ⟨g, j, none⟩ = some u
  lf : f < B
  lg : g < B
theorem CodeIn.below {w w' : World} {B f g : Nat} {b : List Int} (h : CodeIn w B f g b) (hb : Below B w w') : CodeIn w' B f g b :=
  ⟨(dcell hb h.lf 0).trans h.cf, fun j u hu => (dcell hb h.lg j).trans (h.cg j u hu), h.lf, h.lg⟩
theorem CodeIn.more {w : World} {B B' f g : Nat} {b : List Int} (h : CodeIn w B f g b) (hB : B ≤ B') : CodeIn w B' f g b := ⟨h.cf, h.cg, Nat.lt_of_lt_of_le h.lf hB, Nat.lt_of_lt_of_le h.lg hB⟩

def env1 (b : List Int) (f g : Nat) (i0 i1 i2 i3 now : Int) : Env :=
  ⟨.slice none 0 0, [], none, 0, [b], fun _ => some ⟨g, 0, none⟩, fun _ => b.length, some ⟨f, 0, none⟩, 1, [], none, 0, i0, i1, i2, i3, now⟩
theorem img1 {w : World} {f g : Nat} {b : List Int} (h : CodeIn w w.heap.size f g b) (hb : ∀ x ∈ b, 0 ≤ x ∧ x < 256) (hl : b.length ≤ 4611686018427387904) (i0 i1 i2 i3 now : Int) : Img w (env1 b f g i0 i1 i2 i3 now) none 0 [] := by
  refine ⟨rfl, ⟨rfl, fun h => absurd h (by simp), fun s hs => by cases hs⟩, by simp, ⟨by simp, by omega⟩, rfl, ⟨rfl, fun h => absurd h (by simp [env1])⟩, ⟨Nat.le_refl _, by simp [env1]⟩, ⟨by simp [env1], fun _ => ⟨f, 0, rfl, h.lf, ?_⟩⟩, ⟨Nat.le_refl _, by simp [env1]⟩, ?_⟩
  · intro j u hu
    simp [env1] at hu
    cases j with
    | zero => simp at hu; subst hu; simpa using h.cf
    | succ j => simp at hu
  · intro i c hi
    cases i with
    | succ i => simp [env1] at hi
    | zero =>
      simp [env1] at hi
      subst hi
      refine ⟨⟨by simp, fun _ => ⟨g, 0, rfl, h.lg, fun j u hu => ?_⟩⟩, Nat.le_refl _, by simp only [env1]; omega, hl, hb⟩
      have := h.cg j u hu
      simpa using this

/-- A run of one function, no variables, no cells. -/
theorem run1 {w : World} {f g : Nat} {b : List Int} (h : CodeIn w w.heap.size f g b) (hb : ∀ x ∈ b, 0 ≤ x ∧ x < 256) (h27 : ∀ x ∈ b, x ≠ 27) (hl : b.length ≤ 4611686018427387904) (i0 i1 i2 i3 o0 o1 o2 o3 now budget : Int) (hbud : budget ≤ 1000000)
    {R : St} {x : Int} (hR : ∀ La Lc, execP (atLay (env1 b f g i0 i1 i2 i3 now) La Lc) ((max budget 0).toNat + 1) b 0 ⟨[], o0, o1, o2, o3, (max budget 0).toNat, 0, []⟩ = (R, x)) (hRc : R.cells = []) :
    Calls Tryd.prog 22 #[.agg #[.slice none 0 0, .slice none 0 0, .slice (some ⟨f, 0, none⟩) 1 1], .slice none 0 0, .agg #[.int .i64 i0, .int .i64 i1, .int .i64 i2, .int .i64 i3], .agg #[.int .i64 o0, .int .i64 o1, .int .i64 o2, .int .i64 o3], .int .i64 now, .int .i64 budget] w fun e w' =>
      Below w.heap.size w w' ∧ ∃ v, e = .returned (.tuple #[v, .agg #[.int .i64 (if x = 0 then R.o0 else 0), .int .i64 (if x = 0 then R.o1 else 0), .int .i64 (if x = 0 then R.o2 else 0), .int .i64 (if x = 0 then R.o3 else 0)], .int .i64 R.used, .int .i64 x]) ∧ w'.ownsRow w.heap.size 3 1 v 0 [] := by
  refine (run_any (env1 b f g i0 i1 i2 i3 now) none 0 [] w (img1 h hb hl i0 i1 i2 i3 now) (fun c hc => by cases hc) (.inl fun c hc x hx => by simp [env1] at hc; subst hc; exact h27 x hx) none 0 0 [] Row.nil (by omega) (Nat.le_refl _) o0 o1 o2 o3 budget hbud).mono ?_
  rintro e w' ⟨hbl, La, Lc, hh⟩
  have hc : callP (atLay (env1 b f g i0 i1 i2 i3 now) La Lc) ((max budget 0).toNat + 1) ⟨[], o0, o1, o2, o3, (max budget 0).toNat, 0, []⟩ 0 = ({ R with stk := [] }, x) := by
    unfold callP
    rw [if_pos (by simp [atLay, env1])]
    have := hR La Lc
    rw [show ((atLay (env1 b f g i0 i1 i2 i3 now) La Lc).funcs.getD (0 : Int).toNat []) = b from rfl, this]
  simp only [hc] at hh
  refine ⟨hbl, ?_⟩
  rcases hh with ⟨h0, v, he, hv⟩ | ⟨h0, he⟩
  · subst h0
    refine ⟨v, by simpa using he, ?_⟩
    rw [hRc] at hv
    simpa using hv
  · exact ⟨_, by simpa [h0] using he, World.ownsRow_nil _ _ _ _⟩
end Go.Proofs.YtngobbbinacomaaDoor
