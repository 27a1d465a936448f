/- The document's chapter 12: a function is verified, where it is sound: a certificate. -/
import Derived.Test.YtngobbbinacomaaDoorRHD8
import Derived.Test.YtngobbbinacomaaDoorMA10
import Derived.Deep.DeepCutAuto
namespace Go.Proofs.YtngobbbinacomaaDoor
open Go.RowKit Go.Proofs.YtngobbbinacomaaDoor.c11 Go.Proofs.YtngobbbinacomaaDoor.c10
set_option linter.unusedVariables false
set_option linter.unusedSimpArgs false
attribute [local go_sem ↓] Go.wp_at_zero Go.wp_at_succ

/-- The instructions of bytes. -/
def opsL (b : List Int) : List (Int × Int × Int × Int × Int) × Int := runL (fun j => b.getD j 0) b.length (b.length + 1) 0 []

/-- What shows that a function is sound: for each instruction that is come by, its stack. -/
structure Cert (nc nf : Nat) (cells : List CellD) (L : List (Int × Int × Int × Int × Int)) (T : List (Option (List Int))) : Prop where
  len : T.length = L.length
  pos : 0 < L.length
  sml : L.length ≤ 120
  start : T[0]? = some (some [])
  jumps : ∀ o ∈ L, o.2.2.1 = 18 ∨ o.2.2.1 = 19 → 0 ≤ placeF o.2.2.2.1 L 0
  bytes : ∀ o ∈ L, (0 ≤ o.2.2.2.1 ∧ o.2.2.2.1 < 256) ∧ 0 ≤ o.2.2.1 ∧ o.2.2.1 ≤ 29
  step : ∀ (i : Nat) (o : Int × Int × Int × Int × Int) (s : List Int), L[i]? = some o → T[i]? = some (some s) → s.length ≤ 8 ∧ bearsB nc nf cells o.2.2.1 o.2.2.2.1.toNat o.2.2.2.2 = true ∧ ∃ s', doesP cells o.2.2.1 o.2.2.2.1.toNat s = some s' ∧
    ∀ t ∈ nextP o.2.2.1 o.2.2.2.1 o.2.1, ∃ p : Nat, placeF t L 0 = p ∧ p < L.length ∧ T[p]? = some (some s')

theorem RowX.monoX {w : World} {X Y : Nat → Prop} {size n : Nat} {A : Option Addr} {xs : List Value} (h : RowX w X size A n xs) (hk : ∀ b, X b → Y b) : RowX w Y size A n xs :=
  ⟨h.1, fun hn => by
    obtain ⟨b, off, e, hb, hc⟩ := h.2 hn
    exact ⟨b, off, e, hk b hb, hc⟩⟩

/-- What the going through holds: which are known, which are done, their stacks. -/
structure FInv (kb db tb n : Nat) (T : List (Option (List Int))) (K D : List Bool) (V : List Value) (w : World) : Prop where
  kl : K.length = n
  dl : D.length = n
  vl : V.length = n
  kc : ∀ j x, K[j]? = some x → w.cell? ⟨kb, j, none⟩ = some (.bool x) ∧ w.frozen? ⟨kb, j, none⟩ = false
  dc : ∀ j x, D[j]? = some x → w.cell? ⟨db, j, none⟩ = some (.bool x) ∧ w.frozen? ⟨db, j, none⟩ = false
  vc : ∀ j v, V[j]? = some v → w.cell? ⟨tb, j, none⟩ = some v ∧ w.frozen? ⟨tb, j, none⟩ = false
  st : ∀ (j : Nat), K[j]? = some true → ∃ s A c, T[j]? = some (some s) ∧ V[j]? = some (.slice A s.length c) ∧ s.length ≤ c ∧ c ≤ 9223372036854775807 ∧ RowX w (fun b => b < w.heap.size ∧ b ≠ kb ∧ b ≠ db ∧ b ≠ tb) 1 A s.length (s.map (Value.int .i64))
  lt : kb < w.heap.size ∧ db < w.heap.size ∧ tb < w.heap.size
  ne : kb ≠ db ∧ kb ≠ tb ∧ db ≠ tb
theorem FInv.below {kb db tb n : Nat} {T : List (Option (List Int))} {K D : List Bool} {V : List Value} {w w' : World} (h : FInv kb db tb n T K D V w) (hb : Below w.heap.size w w') : FInv kb db tb n T K D V w' := by
  have hs := hb.size
  refine ⟨h.kl, h.dl, h.vl, fun j x hx => ⟨(dcell hb h.lt.1 j).trans (h.kc j x hx).1, (dfroz hb h.lt.1 j).trans (h.kc j x hx).2⟩, fun j x hx => ⟨(dcell hb h.lt.2.1 j).trans (h.dc j x hx).1, (dfroz hb h.lt.2.1 j).trans (h.dc j x hx).2⟩, fun j x hx => ⟨(dcell hb h.lt.2.2 j).trans (h.vc j x hx).1, (dfroz hb h.lt.2.2 j).trans (h.vc j x hx).2⟩, ?_, by have := h.lt; omega, h.ne⟩
  intro j hj
  obtain ⟨s, A, c, h1, h2, h3, h4, h5⟩ := h.st j hj
  exact ⟨s, A, c, h1, h2, h3, h4, (h5.keep fun b hX => hb.block b hX.1).monoX fun b hX => ⟨by omega, hX.2⟩⟩
theorem FInv.drew {kb db tb n : Nat} {T : List (Option (List Int))} {K D : List Bool} {V : List Value} {w : World} (h : FInv kb db tb n T K D V w) : FInv kb db tb n T K D V w.drew := h.below ⟨rfl, rfl, rfl, Nat.le_refl _, fun _ _ => rfl⟩
theorem FInv.drewN {kb db tb n : Nat} {T : List (Option (List Int))} {K D : List Bool} {V : List Value} {w : World} (h : FInv kb db tb n T K D V w) (m : Nat) : FInv kb db tb n T K D V (w.drewN m) := h.below ⟨rfl, rfl, rfl, Nat.le_refl _, fun _ _ => rfl⟩

theorem cell_set_same {w : World} {b j : Nat} {u v : Value} (h : w.cell? ⟨b, j, none⟩ = some u) : (w.setCell ⟨b, j, none⟩ v).cell? ⟨b, j, none⟩ = some v := by
  have hb : (w.cell? ⟨b, j, none⟩).isSome = true := by rw [h]; rfl
  go_simp
theorem cell_set_ne {w : World} {b j b' j' : Nat} {v : Value} (h : b ≠ b' ∨ j ≠ j') : (w.setCell ⟨b, j, none⟩ v).cell? ⟨b', j', none⟩ = w.cell? ⟨b', j', none⟩ :=
  World.cell?_setCell_other w ⟨b, j, none⟩ ⟨b', j', none⟩ v (fun e => by injection e with e1 e2; rcases h with h | h; exact h (by first | exact e1 | exact e1.symm); exact h (by first | exact e2 | exact e2.symm))
theorem froz_set {w : World} {p q : Addr} {v : Value} : (w.setCell p v).frozen? q = w.frozen? q := by go_simp

/-- One is done. -/
theorem FInv.setD {kb db tb n : Nat} {T : List (Option (List Int))} {K D : List Bool} {V : List Value} {w : World} (h : FInv kb db tb n T K D V w) (i : Nat) (hi : i < n) : FInv kb db tb n T K (D.set i true) V (w.setCell ⟨db, i, none⟩ (.bool true)) := by
  obtain ⟨n1, n2, n3⟩ := h.ne
  obtain ⟨d0, hd⟩ : ∃ x, D[i]? = some x := ⟨_, List.getElem?_eq_getElem (by rw [h.dl]; exact hi)⟩
  refine ⟨h.kl, by simp [h.dl], h.vl, fun j x hx => ⟨(cell_set_ne (.inl (Ne.symm n1))).trans (h.kc j x hx).1, froz_set.trans (h.kc j x hx).2⟩, fun j x hx => ?_, fun j x hx => ⟨(cell_set_ne (.inl n3)).trans (h.vc j x hx).1, froz_set.trans (h.vc j x hx).2⟩, ?_, by simpa using h.lt, h.ne⟩
  · rw [List.getElem?_set] at hx
    by_cases hj : i = j
    · subst hj
      rw [if_pos rfl, if_pos (by rw [h.dl]; exact hi)] at hx
      injection hx with hx
      subst hx
      exact ⟨cell_set_same (h.dc i _ hd).1, froz_set.trans (h.dc i _ hd).2⟩
    · rw [if_neg hj] at hx
      exact ⟨(cell_set_ne (.inr hj)).trans (h.dc j x hx).1, froz_set.trans (h.dc j x hx).2⟩
  · intro j hj
    obtain ⟨s, A, c, h1, h2, h3, h4, h5⟩ := h.st j hj
    exact ⟨s, A, c, h1, h2, h3, h4, (h5.keep fun b hX => Below.heap_setCell w ⟨db, i, none⟩ _ b hX.2.2.1).monoX fun b hX => ⟨by simpa using hX.1, hX.2⟩⟩

/-- One becomes known, with its stack. -/
theorem FInv.setK {kb db tb n : Nat} {T : List (Option (List Int))} {K D : List Bool} {V : List Value} {w : World} (h : FInv kb db tb n T K D V w) (p : Nat) (hp : p < n) (s : List Int) (A : Option Addr) (c : Nat) (hT : T[p]? = some (some s)) (hc : s.length ≤ c) (hcm : c ≤ 9223372036854775807)
    (hr : RowX w (fun b => b < w.heap.size ∧ b ≠ kb ∧ b ≠ db ∧ b ≠ tb) 1 A s.length (s.map (Value.int .i64))) :
    FInv kb db tb n T (K.set p true) D (V.set p (.slice A s.length c)) ((w.setCell ⟨kb, p, none⟩ (.bool true)).setCell ⟨tb, p, none⟩ (.slice A s.length c)) := by
  obtain ⟨n1, n2, n3⟩ := h.ne
  obtain ⟨k0, hk⟩ : ∃ x, K[p]? = some x := ⟨_, List.getElem?_eq_getElem (by rw [h.kl]; exact hp)⟩
  obtain ⟨v0, hv⟩ : ∃ x, V[p]? = some x := ⟨_, List.getElem?_eq_getElem (by rw [h.vl]; exact hp)⟩
  have hblk : ∀ b, b ≠ kb → b ≠ tb → ((w.setCell ⟨kb, p, none⟩ (.bool true)).setCell ⟨tb, p, none⟩ (.slice A s.length c)).heap[b]? = w.heap[b]? := fun b h1 h2 => (Below.heap_setCell _ ⟨tb, p, none⟩ _ b h2).trans (Below.heap_setCell _ ⟨kb, p, none⟩ _ b h1)
  refine ⟨by simp [h.kl], h.dl, by simp [h.vl], fun j x hx => ?_, fun j x hx => ⟨((cell_set_ne (.inl (Ne.symm n3))).trans (cell_set_ne (.inl n1))).trans (h.dc j x hx).1, (froz_set.trans froz_set).trans (h.dc j x hx).2⟩, fun j v hx => ?_, ?_, by simpa using h.lt, h.ne⟩
  · rw [List.getElem?_set] at hx
    by_cases hj : p = j
    · subst hj
      rw [if_pos rfl, if_pos (by rw [h.kl]; exact hp)] at hx
      injection hx with hx
      subst hx
      exact ⟨(cell_set_ne (.inl (Ne.symm n2))).trans (cell_set_same (h.kc p _ hk).1), (froz_set.trans froz_set).trans (h.kc p _ hk).2⟩
    · rw [if_neg hj] at hx
      exact ⟨((cell_set_ne (.inl (Ne.symm n2))).trans (cell_set_ne (.inr hj))).trans (h.kc j x hx).1, (froz_set.trans froz_set).trans (h.kc j x hx).2⟩
  · rw [List.getElem?_set] at hx
    by_cases hj : p = j
    · subst hj
      rw [if_pos rfl, if_pos (by rw [h.vl]; exact hp)] at hx
      injection hx with hx
      subst hx
      exact ⟨cell_set_same ((cell_set_ne (.inl n2)).trans (h.vc p _ hv).1), (froz_set.trans froz_set).trans (h.vc p _ hv).2⟩
    · rw [if_neg hj] at hx
      exact ⟨((cell_set_ne (.inr hj)).trans (cell_set_ne (.inl n2))).trans (h.vc j v hx).1, (froz_set.trans froz_set).trans (h.vc j v hx).2⟩
  · intro j hj
    rw [List.getElem?_set] at hj
    by_cases hjp : p = j
    · subst hjp
      refine ⟨s, A, c, hT, ?_, hc, hcm, (hr.keep fun b hX => hblk b hX.2.1 hX.2.2.2).monoX fun b hX => ⟨by simpa using hX.1, hX.2⟩⟩
      rw [List.getElem?_set_self (by rw [h.vl]; exact hp)]
    · rw [if_neg hjp] at hj
      obtain ⟨s', A', c', h1, h2, h3, h4, h5⟩ := h.st j hj
      exact ⟨s', A', c', h1, by rw [List.getElem?_set, if_neg hjp]; exact h2, h3, h4, (h5.keep fun b hX => hblk b hX.2.1 hX.2.2.2).monoX fun b hX => ⟨by simpa using hX.1, hX.2⟩⟩

/-- How many are not done. -/
theorem count_set {D : List Bool} {i : Nat} (h : D[i]? = some false) : (D.set i true).count false + 1 = D.count false := by
  induction D generalizing i with
  | nil => simp at h
  | cons x D ih =>
    cases i with
    | zero => simp at h; subst h; simp
    | succ i =>
      simp at h
      have := ih h
      cases x <;> simp [List.count_cons] at this ⊢ <;> omega
theorem count_le (D : List Bool) : D.count false ≤ D.length := List.count_le_length
end Go.Proofs.YtngobbbinacomaaDoor
