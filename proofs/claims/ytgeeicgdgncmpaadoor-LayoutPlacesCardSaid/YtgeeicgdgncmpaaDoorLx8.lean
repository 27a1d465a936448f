/- A great region that only reads, of more than a hundred operations: that its lexical order serves every order, asked in parts (the kernel's memory holds no whole). -/
import Derived.Deep.Quiet
import Derived.Deep.QuietTactic
namespace Go.Proofs.YtgeeicgdgncmpaaDoor
set_option linter.unusedVariables false
set_option linter.unusedSimpArgs false

def bindsBefore (md : Region.Mode) (o : Oper) (k : Nat) : Bool := o.after.toList.all fun e => !Region.binds md e || Nat.blt e.on k
def apartFrom (md : Region.Mode) (ops : Array Oper) (o : Oper) (k : Nat) (oj : Oper) : Bool := (oj.after.toList.any fun e => Region.binds md e && Nat.beq e.on k) || o.apart ops oj
def okN (md : Region.Mode) (ops : Array Oper) : Nat → List Oper → Nat → Bool
  | 0, _, _ => true
  | _ + 1, [], _ => true
  | n + 1, o :: rest, k => bindsBefore md o k && (rest.all (apartFrom md ops o k) && okN md ops n rest (k + 1))

/-- What is asked of one operation. -/
def OkAt (md : Region.Mode) (l : List Oper) (k : Nat) : Prop := ∀ o, l[k]? = some o → bindsBefore md o k = true ∧ ∀ j oj, k < j → l[j]? = some oj → apartFrom md l.toArray o k oj = true

theorem okN_spec (md : Region.Mode) (l : List Oper) : ∀ (n k : Nat), okN md l.toArray n (l.drop k) k = true → ∀ i, k ≤ i → i < k + n → OkAt md l i := by
  intro n
  induction n with
  | zero => intro k _ i h1 h2; omega
  | succ n ih =>
    intro k h i h1 h2
    by_cases hk : k < l.length
    · rw [List.drop_eq_getElem_cons hk] at h
      simp only [okN, Bool.and_eq_true] at h
      obtain ⟨ha, hb, hc⟩ := h
      by_cases hik : i = k
      · subst hik
        intro o ho
        obtain ⟨_, rfl⟩ := List.getElem?_eq_some_iff.1 ho
        refine ⟨ha, fun j oj hj hoj => ?_⟩
        have hm : oj ∈ l.drop (i + 1) := by
          refine List.mem_of_getElem? (i := j - (i + 1)) ?_
          rw [List.getElem?_drop, show i + 1 + (j - (i + 1)) = j by omega]
          exact hoj
        exact List.all_eq_true.1 hb oj hm
      · exact ih (k + 1) hc i (by omega) (by omega)
    · intro o ho
      have := (List.getElem?_eq_some_iff.1 ho).1
      omega

/-- The first k operations have come up. -/
def upTo (n k : Nat) : Array Bool := Array.replicate k true ++ Array.replicate (n - k) false
theorem upTo_getD (n k i : Nat) (d : Bool) (hk : k ≤ n) : (upTo n k).getD i d = if i < k then true else if i < n then false else d := by
  unfold upTo
  rw [Array.getD_eq_getD_getElem?]
  by_cases h1 : i < k
  · rw [if_pos h1, Array.getElem?_append_left (by simpa using h1)]
    simp [h1]
  · rw [if_neg h1, Array.getElem?_append_right (by simp; omega)]
    by_cases h2 : i < n
    · rw [if_pos h2]
      simp [show i - k < n - k by omega]
    · rw [if_neg h2]
      simp [show ¬ i - k < n - k by omega]
theorem upTo_set (n k : Nat) (hk : k < n) : (upTo n k).setIfInBounds k true = upTo n (k + 1) := by
  apply Array.ext
  · simp [upTo]; omega
  · intro i h1 h2
    have hs : (upTo n k).size = n := by simp [upTo]; omega
    have hi : i < n := by rw [Array.size_setIfInBounds, hs] at h1; exact h1
    have e1 : ((upTo n k).setIfInBounds k true)[i]? = some (if k = i then true else ((upTo n k).getD i true)) := by
      rw [Array.getElem?_setIfInBounds]
      by_cases h : k = i
      · rw [if_pos h, if_pos h, if_pos (by rw [hs]; omega)]
      · rw [if_neg h, if_neg h, Array.getD_eq_getD_getElem?, Array.getElem?_eq_getElem (by omega)]
        rfl
    have e2 : (upTo n (k + 1))[i]? = some ((upTo n (k + 1)).getD i true) := by
      rw [Array.getD_eq_getD_getElem?, Array.getElem?_eq_getElem h2]
      rfl
    have e3 : (if k = i then true else ((upTo n k).getD i true)) = (upTo n (k + 1)).getD i true := by
      rw [upTo_getD n k i true (by omega), upTo_getD n (k + 1) i true (by omega)]
      by_cases h : k = i
      · rw [if_pos h, if_pos (by omega)]
      · rw [if_neg h]
        by_cases h3 : i < k
        · rw [if_pos h3, if_pos (by omega)]
        · have h4 : ¬ i < k + 1 := by omega
          simp [h3, h4]
    rw [Array.getElem?_eq_getElem h1] at e1
    rw [Array.getElem?_eq_getElem h2] at e2
    rw [← e3] at e2
    exact (Option.some.inj e1).trans (Option.some.inj e2).symm

theorem lexFrom_of (md : Region.Mode) (l : List Oper) (h : ∀ k, k < l.length → OkAt md l k) : ∀ (fuel k : Nat), k + fuel = l.length → Region.lexFrom md l.toArray fuel k (upTo l.length k) = true := by
  intro fuel
  induction fuel with
  | zero =>
    intro k hk
    have hk' : k = l.length := by omega
    subst hk'
    simp only [Region.lexFrom, Region.ready]
    rw [List.isEmpty_iff, List.filter_eq_nil_iff]
    intro i hi
    have hi' : i < l.length := by simpa using hi
    rw [upTo_getD _ _ _ _ (Nat.le_refl _), if_pos hi']
    simp
  | succ fuel ih =>
    intro k hk
    have hkl : k < l.length := by omega
    obtain ⟨o, ho⟩ : ∃ o, l[k]? = some o := ⟨_, List.getElem?_eq_getElem hkl⟩
    obtain ⟨h1, h2⟩ := h k hkl o ho
    have ho' : l.toArray[k]? = some o := by simpa using ho
    simp only [Region.lexFrom, Bool.and_eq_true]
    refine ⟨⟨?_, ?_⟩, ?_⟩
    · rw [List.contains_iff_mem, Region.ready, List.mem_filter]
      refine ⟨by simpa using hkl, ?_⟩
      rw [upTo_getD _ _ _ _ (by omega), if_neg (Nat.lt_irrefl k), if_pos hkl, ho']
      simp only [Bool.not_false, Bool.true_and, Option.map_some, Option.getD_some]
      rw [← Array.all_toList, List.all_eq_true]
      intro e he
      have h3 := List.all_eq_true.1 h1 e he
      rw [Bool.or_eq_true] at h3 ⊢
      rcases h3 with h3 | h3
      · exact .inl h3
      · right
        have hlt : e.on < k := by rwa [Nat.blt_eq] at h3
        rw [upTo_getD _ _ _ _ (by omega), if_pos hlt]
    · unfold Region.free
      rw [ho']
      simp only
      rw [List.all_eq_true]
      intro j hj
      have hj' : j < l.length := by simpa using hj
      by_cases hjk : j = k
      · simp [hjk]
      · by_cases hlt : j < k
        · have := upTo_getD l.length k j true (by omega)
          rw [if_pos hlt] at this
          rw [this]
          simp
        · obtain ⟨oj, hoj⟩ : ∃ oj, l[j]? = some oj := ⟨_, List.getElem?_eq_getElem hj'⟩
          have h3 := h2 j oj (by omega) hoj
          have hoj' : l.toArray[j]? = some oj := by simpa using hoj
          rw [hoj']
          unfold apartFrom at h3
          rw [Bool.or_eq_true] at h3
          rw [Bool.or_eq_true, Bool.or_eq_true]
          right
          simp only
          rw [Bool.or_eq_true]
          rcases h3 with h3 | h3
          · left
            rw [← Array.any_toList]
            rw [List.any_eq_true] at h3 ⊢
            obtain ⟨e, he, h4⟩ := h3
            refine ⟨e, he, ?_⟩
            rw [Bool.and_eq_true] at h4 ⊢
            exact ⟨h4.1, by simpa using Nat.eq_of_beq_eq_true h4.2⟩
          · exact .inr h3
    · rw [upTo_set _ _ hkl]
      exact ih (k + 1) (by omega)

/-- Nine parts of twelve operations. -/
theorem lexB_parts {md : Region.Mode} {l : List Oper} (hn : Region.noSelect l.toArray = true) (hl : Nat.ble l.length 108 = true)
    (c0 : okN md l.toArray 12 (l.drop 0) 0 = true) (c1 : okN md l.toArray 12 (l.drop 12) 12 = true) (c2 : okN md l.toArray 12 (l.drop 24) 24 = true) (c3 : okN md l.toArray 12 (l.drop 36) 36 = true) (c4 : okN md l.toArray 12 (l.drop 48) 48 = true)
    (c5 : okN md l.toArray 12 (l.drop 60) 60 = true) (c6 : okN md l.toArray 12 (l.drop 72) 72 = true) (c7 : okN md l.toArray 12 (l.drop 84) 84 = true) (c8 : okN md l.toArray 12 (l.drop 96) 96 = true) : Region.lexB md l.toArray = true := by
  have hl' : l.length ≤ 108 := Nat.le_of_ble_eq_true hl
  unfold Region.lexB
  rw [hn, Bool.true_and]
  have h := lexFrom_of md l (fun k hk => by
    rcases (show k < 12 ∨ (12 ≤ k ∧ k < 24) ∨ (24 ≤ k ∧ k < 36) ∨ (36 ≤ k ∧ k < 48) ∨ (48 ≤ k ∧ k < 60) ∨ (60 ≤ k ∧ k < 72) ∨ (72 ≤ k ∧ k < 84) ∨ (84 ≤ k ∧ k < 96) ∨ (96 ≤ k ∧ k < 108) by omega) with h | h | h | h | h | h | h | h | h
    · exact okN_spec md l 12 0 c0 k (Nat.zero_le _) (by omega)
    · exact okN_spec md l 12 12 c1 k h.1 (by omega)
    · exact okN_spec md l 12 24 c2 k h.1 (by omega)
    · exact okN_spec md l 12 36 c3 k h.1 (by omega)
    · exact okN_spec md l 12 48 c4 k h.1 (by omega)
    · exact okN_spec md l 12 60 c5 k h.1 (by omega)
    · exact okN_spec md l 12 72 c6 k h.1 (by omega)
    · exact okN_spec md l 12 84 c7 k h.1 (by omega)
    · exact okN_spec md l 12 96 c8 k h.1 (by omega)) l.length 0 (by omega)
  have e : upTo l.length 0 = Array.replicate l.toArray.size false := by simp [upTo]
  rw [e] at h
  simpa using h
end Go.Proofs.YtgeeicgdgncmpaaDoor
