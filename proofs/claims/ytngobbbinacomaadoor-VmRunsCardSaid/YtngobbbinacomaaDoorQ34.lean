/- Chapter 14: a run of made code keeps its stack's kinds, and its cells are values of their kinds. -/
import Derived.Test.YtngobbbinacomaaDoorQ30
import Derived.Test.YtngobbbinacomaaDoorQ29
import Derived.Test.YtngobbbinacomaaDoorQ18
import Derived.Test.YtngobbbinacomaaDoorQ06
import Derived.Deep.RegionHeld3
import Derived.BigRegion
namespace Go.Proofs.YtngobbbinacomaaDoor
open Go.RowKit Go.Proofs.YtngobbbinacomaaDoor.c11 Go.Proofs.YtngobbbinacomaaDoor.c10 Go.Proofs.YtngobbbinacomaaDoor.c13
set_option linter.unusedVariables false
set_option linter.unusedSimpArgs false
/-- A value of a kind. -/
def IsK (k x : Int) : Prop := wrapK k x = x
/-- Cells that are values of their kinds. -/
structure CellsK (cells : List CellD) (xs : List Int) : Prop where
  len : xs.length = cells.length
  kind : ∀ (i : Nat) (c : CellD) (x : Int), cells[i]? = some c → xs[i]? = some x → IsK c.kind x
/-- A stack that has these kinds. -/
structure StackK (o : List Int) (stk : List (Int × Int)) : Prop where
  kinds : stk.map Prod.fst = o
  vals : ∀ p ∈ stk, IsK p.1 p.2
structure TypedS (cells : List CellD) (o : List Int) (S : St) : Prop where
  cells : CellsK cells S.cells
  stk : StackK o S.stk
theorem StackK.push {o : List Int} {stk : List (Int × Int)} (h : StackK o stk) (k x : Int) (hx : IsK k x) : StackK (o ++ [k]) (stk ++ [(k, x)]) :=
  ⟨by simp [h.kinds], fun p hp => by
    rcases List.mem_append.1 hp with hp | hp
    · exact h.vals p hp
    · simp at hp; subst hp; exact hx⟩
theorem nil_or_appP (l : List (Int × Int)) : l = [] ∨ ∃ r b, l = r ++ [b] := by
  rcases List.eq_nil_or_concat l with h | ⟨r, b, h⟩
  · exact .inl h
  · exact .inr ⟨r, b, by rw [h]; simp⟩
/-- The top. -/
theorem StackK.top {r : List Int} {k : Int} {stk : List (Int × Int)} (h : StackK (r ++ [k]) stk) : ∃ s x, stk = s ++ [(k, x)] ∧ StackK r s ∧ IsK k x := by
  rcases nil_or_appP stk with rfl | ⟨s, ⟨a, x⟩, rfl⟩
  · have := h.kinds; simp at this
  · have hk := h.kinds
    simp at hk
    obtain ⟨h1, h2⟩ := hk
    subst h2
    exact ⟨s, x, rfl, ⟨h1, fun p hp => h.vals p (by simp [hp])⟩, h.vals (a, x) (by simp)⟩
theorem popS_top {S : St} {s : List (Int × Int)} {k x : Int} (h : S.stk = s ++ [(k, x)]) : popS S = ((k, x), { S with stk := s }) := popS_some h
theorem CellsK.set {cells : List CellD} {xs : List Int} (h : CellsK cells xs) (i : Nat) (x : Int) (hx : ∀ c, cells[i]? = some c → IsK c.kind x) : CellsK cells (xs.set i x) :=
  ⟨by simpa using h.len, fun j c y hc hy => by
    rw [List.getElem?_set] at hy
    by_cases hij : i = j
    · subst hij
      rw [if_pos rfl] at hy
      by_cases hi : i < xs.length
      · rw [if_pos hi] at hy
        injection hy with hy
        subst hy
        exact hx c hc
      · rw [if_neg hi] at hy
        cases hy
    · rw [if_neg hij] at hy; exact h.kind j c y hc hy⟩
theorem CellsK.get {cells : List CellD} {xs : List Int} (h : CellsK cells xs) (i : Nat) (hi : i < cells.length) : IsK (cellD cells i).kind (xs.getD i 0) := by
  have hx : xs[i]? = some (xs.getD i 0) := by
    rw [List.getD_eq_getElem?_getD, List.getElem?_eq_getElem (by rw [h.len]; exact hi)]
    rfl
  have hc : cells[i]? = some (cellD cells i) := by
    unfold cellD
    rw [if_neg (by omega), Int.toNat_natCast, List.getD_eq_getElem?_getD, List.getElem?_eq_getElem hi]
    rfl
  exact h.kind i _ _ hc hx
theorem twoM_isK (s a b x y : Int) (h : twoE s a b y = 0) : IsK (kindM s a b) (twoM s a b x y) := by
  unfold twoE at h
  unfold IsK twoM
  by_cases hk : kindE s a b ≠ 0
  · rw [if_pos hk] at h; exact absurd h hk
  · rw [if_neg hk] at h ⊢
    by_cases hd : (s = 10 ∨ s = 11) ∧ y = 0
    · rw [if_pos hd] at h; cases h
    · rw [if_neg hd]; exact wrapK_idem _ _
/-- How arrays and blocks lie among the cells. -/
structure LayOk (cells : List CellD) : Prop where
  kinds : KindsOk cells
  arr : ∀ (a : Nat) (i : Int), a < cells.length → 0 ≤ i → i < (cellD cells a).len → a + i.toNat < cells.length ∧ (cellD cells (a + i.toNat : Nat)).kind = (cellD cells a).kind
  blk : ∀ (a : Nat), a < cells.length → (cellD cells a).block ≠ 0 → a + 6 ≤ cells.length ∧ (((cellD cells a).block = 9 ∧ ∀ j k, ([1, 6, 1, 6, 6, 1] : List Int)[j]? = some k → (cellD cells (a + j : Nat)).kind = k) ∨ ((cellD cells a).block = 10 ∧ ∀ j k, ([1, 1, 5, 1, 5, 1] : List Int)[j]? = some k → (cellD cells (a + j : Nat)).kind = k))
/-- What an instruction of two values does. -/
theorem two_typed {E : Env} {cells : List CellD} {o out : List Int} {s a N : Int} {S : St} (h2 : takesN s = 2) (h6 : s ≠ 6) (hd : doesU cells s a.toNat o = some out) (h : TypedS cells o S) (hdo : ∀ a' n', doP E S s a' n' = operateP S s a') (hop : s ≠ 15 ∧ s ≠ 21 ∧ s ≠ 22 ∧ s ≠ 23) :
    ∀ a' n', ((doP E S s a' n').2 = 0 ∧ TypedS cells out (doP E S s a' n').1) ∨ (doP E S s a' n').2 = 21 := by
  intro a' n'
  rw [hdo]
  rcases nil_or_app o with rfl | ⟨r, b, rfl⟩
  · simp [doesU, h2] at hd
  rcases nil_or_app r with rfl | ⟨q, c, rfl⟩
  · simp [doesU, h2] at hd
  have hd' : does2 cells s a.toNat q c b = some out := by
    rw [List.append_assoc, List.singleton_append, du_two h2] at hd
    exact hd
  unfold does2 at hd'
  rw [if_neg h6] at hd'
  by_cases hk : kindE s c b = 0
  · rw [if_pos hk] at hd'
    obtain rfl := Option.some.inj hd'
    obtain ⟨t, y, ht, hs1, hy⟩ := h.stk.top
    obtain ⟨u, x, hu, hs2, hx⟩ := hs1.top
    have e1 := popS_top ht
    have e2 := popS_top (S := { S with stk := t }) hu
    obtain ⟨n15, n21, n22, n23⟩ := hop
    unfold operateP
    rw [if_neg n15, if_neg n21, if_neg n22, if_neg n23, e1]
    simp only [e2]
    by_cases ht0 : twoE s c b y = 0
    · rw [if_pos ht0]
      refine .inl ⟨rfl, ⟨h.cells, ?_⟩⟩
      exact hs2.push _ _ (twoM_isK s c b x y ht0)
    · rw [if_neg ht0]
      right
      show twoE s c b y = 21
      unfold twoE at ht0 ⊢
      rw [hk] at ht0 ⊢
      simp only [ne_eq, not_true_eq_false, if_false] at ht0 ⊢
      split at ht0
      · rename_i hh; rw [if_pos hh]
      · exact absurd rfl ht0
  · rw [if_neg hk] at hd'; cases hd'
theorem w57 : wrapK 5 7 = 7 := by kernel_rfl
theorem w51 : wrapK 5 (-1) = -1 := by kernel_rfl
theorem setOut_same (S : St) (a x : Int) : (setOut S a x).cells = S.cells ∧ (setOut S a x).stk = S.stk := by
  unfold setOut
  split
  · exact ⟨rfl, rfl⟩
  split
  · exact ⟨rfl, rfl⟩
  split
  · exact ⟨rfl, rfl⟩
  · exact ⟨rfl, rfl⟩
theorem bit_isK (t : Bool) : IsK 1 (bit t) := by cases t <;> rfl
theorem time_isK (x : Int) : IsK 6 x := rfl
theorem bool_01 {x : Int} (h : IsK 1 x) : x = 0 ∨ x = 1 := by
  unfold IsK wrapK at h
  simp at h
  split at h <;> omega
theorem CellsK.splice {cells : List CellD} {xs : List Int} (h : CellsK cells xs) (a : Nat) (ha : a + 6 ≤ cells.length) (l : List Int) (hl : l.length = 6) (hk : ∀ j, j < 6 → IsK (cellD cells (a + j : Nat)).kind (l.getD j 0)) : CellsK cells (xs.take a ++ l ++ xs.drop (a + 6)) := by
  have hlen := h.len
  have ht : (xs.take a).length = a := by simp; omega
  refine ⟨by simp [hl]; omega, fun i c x hc hx => ?_⟩
  rcases Nat.lt_or_ge i a with h1 | h1
  · rw [List.append_assoc, List.getElem?_append_left (by omega), List.getElem?_take, if_pos h1] at hx
    exact h.kind i c x hc hx
  · rcases Nat.lt_or_ge i (a + 6) with h2 | h2
    · rw [List.append_assoc, List.getElem?_append_right (by omega), ht, List.getElem?_append_left (by omega)] at hx
      have hq := hk (i - a) (by omega)
      rw [List.getD_eq_getElem?_getD, hx, show a + (i - a) = i by omega, cellD_at hc] at hq
      exact hq
    · rw [List.getElem?_append_right (by simp [hl]; omega), List.getElem?_drop] at hx
      have e : a + 6 + (i - (xs.take a ++ l).length) = i := by simp [hl]; omega
      rw [e] at hx
      exact h.kind i c x hc hx
theorem isK5_iff {x : Int} (h : IsK 5 x) : -2147483648 ≤ x ∧ x ≤ 2147483647 := by
  unfold IsK at h
  rw [← h]
  simp only [wrapK]
  simp
  unfold wrap32
  omega
theorem isK5_of {x : Int} (h : -2147483648 ≤ x ∧ x ≤ 2147483647) : IsK 5 x := by
  unfold IsK
  simp only [wrapK]
  simp
  unfold wrap32
  omega
theorem ctuV_isK {c0 c1 c4 c5 : Int} (h : IsK 5 c4) : IsK 5 (ctuV c0 c1 c4 c5) := by
  have hb := isK5_iff h
  unfold ctuV
  split
  · exact isK5_of (by omega)
  split
  · rw [IntWalk.i64_in _ (by omega)]; exact isK5_of (by omega)
  · exact h
theorem tonQ_isK (c0 c1 c4 c5 now : Int) : IsK 1 (tonQ c0 c1 c4 c5 now) := by
  unfold tonQ
  split
  · rfl
  · exact bit_isK _
theorem tonR_isK (c0 : Int) {c5 : Int} (h : IsK 1 c5) : IsK 1 (tonR c0 c5) := by
  unfold tonR
  split
  · rfl
  split
  · rfl
  · exact h
theorem isK1_of {x : Int} (h : x = 0 ∨ x = 1) : IsK 1 x := by rcases h with rfl | rfl <;> rfl
/-- What an instruction that goes on behind itself does: it keeps the kinds, or ends in an error of its own. -/
theorem doP_typed {E : Env} {cells : List CellD} (hlay : E.lay = cells) (hconst : E.consts = [7, -1]) (hL : LayOk cells) {o out : List Int} {funcs at_ : Int} {sp : List (Nat × List Int)} {s a N : Int} (hp : PickOk cells o funcs at_ sp s a N) (hd : doesU cells s a.toNat o = some out) (h19 : s ≠ 19) (h20 : s ≠ 20) {S : St} (h : TypedS cells o S) :
    ((doP E S s (if 0 < bearsN s then a else 0) (if s = 1 then N else 0)).2 = 0 ∧ TypedS cells out (doP E S s (if 0 < bearsN s then a else 0) (if s = 1 then N else 0)).1) ∨ (doP E S s (if 0 < bearsN s then a else 0) (if s = 1 then N else 0)).2 = 21 ∨ (doP E S s (if 0 < bearsN s then a else 0) (if s = 1 then N else 0)).2 = 22 := by
  have hs0 := hp.s0
  have hs29 := hp.s29
  have h18 := hp.s18
  have hb := hp.bears
  obtain ⟨an, rfl⟩ : ∃ an : Nat, a = an := ⟨a.toNat, by have := hp.a0; omega⟩
  rw [Int.toNat_natCast] at hd
  have two : ∀ (h2 : takesN s = 2) (h6 : s ≠ 6) (hdo : ∀ a' n', doP E S s a' n' = operateP S s a') (hop : s ≠ 15 ∧ s ≠ 21 ∧ s ≠ 22 ∧ s ≠ 23), ((doP E S s (if 0 < bearsN s then (an : Int) else 0) (if s = 1 then N else 0)).2 = 0 ∧ TypedS cells out (doP E S s (if 0 < bearsN s then (an : Int) else 0) (if s = 1 then N else 0)).1) ∨ (doP E S s (if 0 < bearsN s then (an : Int) else 0) (if s = 1 then N else 0)).2 = 21 ∨ (doP E S s (if 0 < bearsN s then (an : Int) else 0) (if s = 1 then N else 0)).2 = 22 := fun h2 h6 hdo hop => by
    rcases two_typed (E := E) (a := (an : Int)) (N := N) h2 h6 (by rw [Int.toNat_natCast]; exact hd) h hdo hop (if 0 < bearsN s then (an : Int) else 0) (if s = 1 then N else 0) with h | h
    · exact .inl h
    · exact .inr (.inl h)
  rcases (show s = 1 ∨ s = 2 ∨ s = 3 ∨ s = 4 ∨ s = 5 ∨ s = 6 ∨ s = 7 ∨ s = 8 ∨ s = 9 ∨ s = 10 ∨ s = 11 ∨ s = 12 ∨ s = 13 ∨ s = 14 ∨ s = 15 ∨ s = 16 ∨ s = 17 ∨ s = 21 ∨ s = 22 ∨ s = 23 ∨ s = 24 ∨ s = 25 ∨ s = 26 ∨ s = 27 by omega) with rfl | rfl | rfl | rfl | rfl | rfl | rfl | rfl | rfl | rfl | rfl | rfl | rfl | rfl | rfl | rfl | rfl | rfl | rfl | rfl | rfl | rfl | rfl | rfl
  · obtain rfl := Option.some.inj hd
    simp [bearsB] at hb
    exact .inl ⟨rfl, h.cells, h.stk.push _ _ hb.2⟩
  · obtain rfl := Option.some.inj hd
    simp [bearsB] at hb
    have e : doP E S 2 (an : Int) 0 = (pushS S 5 [E.consts.getD an 0], 0) := by
      have : (an : Int) < E.consts.length := by rw [hconst]; exact hb
      simp [doP, this]
    have e' : (if 0 < bearsN 2 then (an : Int) else 0) = an := rfl
    rw [e', show (if (2 : Int) = 1 then N else 0) = 0 from rfl, e]
    refine .inl ⟨rfl, h.cells, h.stk.push _ _ ?_⟩
    rw [hconst]
    rcases (show an = 0 ∨ an = 1 by omega) with rfl | rfl
    · exact w57
    · exact w51
  · obtain rfl := Option.some.inj hd
    simp [bearsB] at hb
    have hat : isAt S.cells.length (an : Int) = true := by rw [h.cells.len]; simp [isAt]; omega
    have e : doP E S 3 (an : Int) 0 = (pushS S (cellD E.lay an).kind [S.cells.getD an 0], 0) := by simp [doP, memoryP, hat]
    rw [show (if 0 < bearsN 3 then (an : Int) else 0) = an from rfl, show (if (3 : Int) = 1 then N else 0) = 0 from rfl, e, hlay]
    exact .inl ⟨rfl, h.cells, h.stk.push _ _ (h.cells.get an (by omega))⟩
  · rcases nil_or_app o with rfl | ⟨r, b, rfl⟩
    · cases hd
    have hd' : (if b = (cellD cells an).kind then some r else none) = some out := by rw [du_one rfl] at hd; exact hd
    split at hd'
    · rename_i hbk
      obtain rfl := Option.some.inj hd'
      obtain ⟨t, y, ht, hs1, hy⟩ := h.stk.top
      have e1 := popS_top ht
      simp [bearsB] at hb
      have hat : isAt S.cells.length (an : Int) = true := by rw [h.cells.len]; simp [isAt]; omega
      have e : doP E S 4 (an : Int) 0 = ({ S with stk := t, cells := S.cells.set an y }, 0) := by simp [doP, memoryP, hat, e1]
      rw [show (if 0 < bearsN 4 then (an : Int) else 0) = an from rfl, show (if (4 : Int) = 1 then N else 0) = 0 from rfl, e]
      refine .inl ⟨rfl, h.cells.set an y (fun c hc => ?_), hs1⟩
      rw [cellD_at hc] at hbk
      rw [← hbk]
      exact hy
    · cases hd'
  · rcases nil_or_app o with rfl | ⟨r, b, rfl⟩
    · cases hd
    have hd' : (if b = 5 then some (r ++ [(cellD cells an).kind]) else none) = some out := by rw [du_one rfl] at hd; exact hd
    split at hd'
    · rename_i hbk
      subst hbk
      obtain rfl := Option.some.inj hd'
      obtain ⟨t, y, ht, hs1, hy⟩ := h.stk.top
      have e1 := popS_top ht
      simp [bearsB] at hb
      have han : an < cells.length := by omega
      rw [show (if 0 < bearsN 5 then (an : Int) else 0) = an from rfl, show (if (5 : Int) = 1 then N else 0) = 0 from rfl]
      by_cases hix : y < 0 ∨ (cellD E.lay an).len ≤ y ∨ isAt S.cells.length ((an : Int) + y) = false
      · have e : (doP E S 5 (an : Int) 0).2 = 22 := by simp [doP, memoryP, e1, indexP, hix]
        exact .inr (.inr e)
      · have hy0 : 0 ≤ y := by omega
        have hyl : y < (cellD cells an).len := by rw [← hlay]; omega
        obtain ⟨q1, q2⟩ := hL.arr an y han hy0 hyl
        have e : doP E S 5 (an : Int) 0 = (pushS { S with stk := t } (cellD E.lay an).kind [S.cells.getD ((an : Int) + y).toNat 0], 0) := by simp [doP, memoryP, e1, indexP, hix]
        rw [e, hlay]
        refine .inl ⟨rfl, h.cells, hs1.push _ _ ?_⟩
        rw [← q2, show ((an : Int) + y).toNat = an + y.toNat by omega]
        exact h.cells.get _ q1
    · cases hd'
  · rcases nil_or_app o with rfl | ⟨r, b, rfl⟩
    · cases hd
    rcases nil_or_app r with rfl | ⟨q, c, rfl⟩
    · simp [doesU, takesN] at hd
    have hd' : (if b = (cellD cells an).kind ∧ c = 5 then some q else none) = some out := by
      rw [List.append_assoc, List.singleton_append, du_two rfl] at hd
      exact hd
    split at hd'
    · rename_i hbk
      obtain ⟨hbk, rfl⟩ := hbk
      obtain rfl := Option.some.inj hd'
      obtain ⟨t, y, ht, hs1, hy⟩ := h.stk.top
      obtain ⟨u, x, hu, hs2, hx⟩ := hs1.top
      have e1 := popS_top ht
      have e2 := popS_top (S := { S with stk := t }) hu
      simp [bearsB] at hb
      have han : an < cells.length := by omega
      rw [show (if 0 < bearsN 6 then (an : Int) else 0) = an from rfl, show (if (6 : Int) = 1 then N else 0) = 0 from rfl]
      by_cases hix : x < 0 ∨ (cellD E.lay an).len ≤ x ∨ isAt S.cells.length ((an : Int) + x) = false
      · have e : (doP E S 6 (an : Int) 0).2 = 22 := by simp [doP, memoryP, e1, e2, indexP, hix]
        exact .inr (.inr e)
      · have hx0 : 0 ≤ x := by omega
        have hxl : x < (cellD cells an).len := by rw [← hlay]; omega
        obtain ⟨q1, q2⟩ := hL.arr an x han hx0 hxl
        have e : doP E S 6 (an : Int) 0 = ({ S with stk := u, cells := S.cells.set ((an : Int) + x).toNat y }, 0) := by simp [doP, memoryP, e1, e2, indexP, hix]
        rw [e]
        refine .inl ⟨rfl, h.cells.set _ y (fun cc hc => ?_), hs2⟩
        rw [show ((an : Int) + x).toNat = an + x.toNat by omega] at hc
        rw [cellD_at hc] at q2
        rw [q2, ← hbk]
        exact hy
    · cases hd'
  · exact two rfl (by decide) (fun _ _ => by simp [doP, memoryP]) (by decide)
  · exact two rfl (by decide) (fun _ _ => by simp [doP, memoryP]) (by decide)
  · exact two rfl (by decide) (fun _ _ => by simp [doP, memoryP]) (by decide)
  · exact two rfl (by decide) (fun _ _ => by simp [doP, memoryP]) (by decide)
  · exact two rfl (by decide) (fun _ _ => by simp [doP, memoryP]) (by decide)
  · exact two rfl (by decide) (fun _ _ => by simp [doP, memoryP]) (by decide)
  · exact two rfl (by decide) (fun _ _ => by simp [doP, memoryP]) (by decide)
  · exact two rfl (by decide) (fun _ _ => by simp [doP, memoryP]) (by decide)
  · rcases nil_or_app o with rfl | ⟨r, b, rfl⟩
    · cases hd
    have hd' : (if b = 1 ∨ b = 2 ∨ b = 3 then some (r ++ [b]) else none) = some out := by rw [du_one rfl] at hd; exact hd
    split at hd'
    · rename_i hbk
      obtain rfl := Option.some.inj hd'
      obtain ⟨t, y, ht, hs1, hy⟩ := h.stk.top
      have e1 := popS_top ht
      have e : doP E S 15 0 0 = (pushS { S with stk := t } b [notK b y], 0) := by simp [doP, memoryP, operateP, e1]
      rw [show (if 0 < bearsN 15 then (an : Int) else 0) = 0 from rfl, show (if (15 : Int) = 1 then N else 0) = 0 from rfl, e]
      refine .inl ⟨rfl, h.cells, hs1.push _ _ ?_⟩
      rcases hbk with rfl | rfl | rfl
      · have h01 := bool_01 hy
        refine isK1_of ?_
        unfold notK
        rw [if_pos rfl]
        rcases h01 with rfl | rfl
        · right; unfold wrap64; omega
        · left; unfold wrap64; omega
      · exact wrapK_idem _ _
      · exact wrapK_idem _ _
    · cases hd'
  · exact two rfl (by decide) (fun _ _ => by simp [doP, memoryP]) (by decide)
  · exact two rfl (by decide) (fun _ _ => by simp [doP, memoryP]) (by decide)
  · rcases nil_or_app o with rfl | ⟨r, b, rfl⟩
    · cases hd
    have hd' : some (r ++ [b, b]) = some out := by rw [du_one rfl] at hd; exact hd
    obtain rfl := Option.some.inj hd'
    obtain ⟨t, y, ht, hs1, hy⟩ := h.stk.top
    have e1 := popS_top ht
    have e : doP E S 21 0 0 = (pushS { S with stk := t } b [y, y], 0) := by simp [doP, memoryP, operateP, e1]
    rw [show (if 0 < bearsN 21 then (an : Int) else 0) = 0 from rfl, show (if (21 : Int) = 1 then N else 0) = 0 from rfl, e]
    refine .inl ⟨rfl, h.cells, ?_⟩
    have h2 := (hs1.push b y hy).push b y hy
    simpa [pushS] using h2
  · rcases nil_or_app o with rfl | ⟨r, b, rfl⟩
    · cases hd
    have hd' : some r = some out := by rw [du_one rfl] at hd; exact hd
    obtain rfl := Option.some.inj hd'
    obtain ⟨t, y, ht, hs1, hy⟩ := h.stk.top
    have e1 := popS_top ht
    have e : doP E S 22 0 0 = ({ S with stk := t }, 0) := by simp [doP, memoryP, operateP, e1]
    rw [show (if 0 < bearsN 22 then (an : Int) else 0) = 0 from rfl, show (if (22 : Int) = 1 then N else 0) = 0 from rfl, e]
    exact .inl ⟨rfl, h.cells, hs1⟩
  · rcases nil_or_app o with rfl | ⟨r, b, rfl⟩
    · cases hd
    have hd' : some (r ++ [(an : Int)]) = some out := by rw [du_one rfl] at hd; exact hd
    obtain rfl := Option.some.inj hd'
    obtain ⟨t, y, ht, hs1, hy⟩ := h.stk.top
    have e1 := popS_top ht
    have e : doP E S 23 (an : Int) 0 = (pushS { S with stk := t } an [wrapK an y], 0) := by simp [doP, memoryP, operateP, e1]
    rw [show (if 0 < bearsN 23 then (an : Int) else 0) = an from rfl, show (if (23 : Int) = 1 then N else 0) = 0 from rfl, e]
    exact .inl ⟨rfl, h.cells, hs1.push _ _ (wrapK_idem _ _)⟩
  · obtain rfl := Option.some.inj hd
    simp [bearsB] at hb
    have hpt : isPort (an : Int) = true := by simp [isPort]; omega
    have e : doP E S 24 (an : Int) 0 = (pushS S 5 [wrapK 5 (inD E an)], 0) := by simp [doP, hpt]
    rw [show (if 0 < bearsN 24 then (an : Int) else 0) = an from rfl, show (if (24 : Int) = 1 then N else 0) = 0 from rfl, e]
    exact .inl ⟨rfl, h.cells, h.stk.push _ _ (wrapK_idem _ _)⟩
  · rcases nil_or_app o with rfl | ⟨r, b, rfl⟩
    · cases hd
    have hd' : (if b = 5 then some r else none) = some out := by rw [du_one rfl] at hd; exact hd
    split at hd'
    · obtain rfl := Option.some.inj hd'
      obtain ⟨t, y, ht, hs1, hy⟩ := h.stk.top
      have e1 := popS_top ht
      simp [bearsB] at hb
      have hpt : isPort (an : Int) = true := by simp [isPort]; omega
      have e : doP E S 25 (an : Int) 0 = (setOut { S with stk := t } an y, 0) := by simp [doP, hpt, e1]
      rw [show (if 0 < bearsN 25 then (an : Int) else 0) = an from rfl, show (if (25 : Int) = 1 then N else 0) = 0 from rfl, e]
      have hso := setOut_same { S with stk := t } an y
      exact .inl ⟨rfl, by rw [hso.1]; exact h.cells, by rw [hso.2]; exact hs1⟩
    · cases hd'
  · obtain rfl := Option.some.inj hd
    exact .inl ⟨rfl, h.cells, h.stk.push _ _ rfl⟩
  · obtain rfl := Option.some.inj hd
    simp [bearsB] at hb
    have han : an < cells.length := by omega
    obtain ⟨q1, q2⟩ := hL.blk an han (by omega)
    have hlen := h.cells.len
    have h1 : isAt S.cells.length (an : Int) = true ∧ isAt S.cells.length ((an : Int) + 5) = true := by
      constructor <;> (simp [isAt]; omega)
    have e : doP E S 27 (an : Int) 0 = (blockP E S an, 0) := by simp [doP, memoryP]
    rw [show (if 0 < bearsN 27 then (an : Int) else 0) = an from rfl, show (if (27 : Int) = 1 then N else 0) = 0 from rfl, e]
    refine .inl ⟨rfl, ?_, ?_⟩
    · unfold blockP
      rw [if_pos h1]
      show CellsK cells (S.cells.take (an : Int).toNat ++ blockC E (cellD E.lay an).block _ _ _ _ _ _ ++ S.cells.drop ((an : Int).toNat + 6))
      rw [Int.toNat_natCast, hlay]
      have g := fun j (hj : j < 6) => h.cells.get (an + j) (by omega)
      rcases q2 with ⟨hb9, hk⟩ | ⟨hb10, hk⟩
      · refine h.cells.splice an q1 _ (by simp [blockC, hb9]) (fun j hj => ?_)
        have k0 := g 0 (by omega); have k5 := g 5 (by omega)
        rw [hk 0 1 rfl] at k0
        rw [hk 5 1 rfl] at k5
        rcases (show j = 0 ∨ j = 1 ∨ j = 2 ∨ j = 3 ∨ j = 4 ∨ j = 5 by omega) with rfl | rfl | rfl | rfl | rfl | rfl
        · rw [hk 0 1 rfl]; simpa [blockC, hb9] using k0
        · rw [hk 1 6 rfl]; exact time_isK _
        · rw [hk 2 1 rfl]
          simpa [blockC, hb9] using tonQ_isK _ _ _ _ _
        · rw [hk 3 6 rfl]; exact time_isK _
        · rw [hk 4 6 rfl]; exact time_isK _
        · rw [hk 5 1 rfl]
          simpa [blockC, hb9] using tonR_isK _ k5
      · refine h.cells.splice an q1 _ (by simp [blockC, hb10]) (fun j hj => ?_)
        have k0 := g 0 (by omega); have k1 := g 1 (by omega); have k2 := g 2 (by omega); have k4 := g 4 (by omega)
        rw [hk 0 1 rfl] at k0
        rw [hk 1 1 rfl] at k1
        rw [hk 2 5 rfl] at k2
        rw [hk 4 5 rfl] at k4
        rcases (show j = 0 ∨ j = 1 ∨ j = 2 ∨ j = 3 ∨ j = 4 ∨ j = 5 by omega) with rfl | rfl | rfl | rfl | rfl | rfl
        · rw [hk 0 1 rfl]; simpa [blockC, hb10] using k0
        · rw [hk 1 1 rfl]; simpa [blockC, hb10] using k1
        · rw [hk 2 5 rfl]; simpa [blockC, hb10] using k2
        · rw [hk 3 1 rfl]; simpa [blockC, hb10] using bit_isK _
        · rw [hk 4 5 rfl]; simpa [blockC, hb10] using ctuV_isK k4
        · rw [hk 5 1 rfl]; simpa [blockC, hb10] using k0
    · unfold blockP
      rw [if_pos h1]
      exact h.stk
end Go.Proofs.YtngobbbinacomaaDoor

/- Chapter 14: an environment of numbers. -/
namespace Go.Proofs.YtngobbbinacomaaDoor
open Go.RowKit Go.Proofs.YtngobbbinacomaaDoor.c11 Go.Proofs.YtngobbbinacomaaDoor.c10
set_option linter.unusedVariables false
set_option linter.unusedSimpArgs false
attribute [local go_sem ↓] Go.wp_at_zero Go.wp_at_succ
theorem own_setIn {w : World} {base g n cap j : Nat} {e : TypeId} {xs : List Value} (h : w.ownsRow base e 1 (.slice (some ⟨g, 0, none⟩) n cap) n xs) (hj : j < n) (u : Value) : (w.setCell ⟨g, j, none⟩ u).ownsRow base e 1 (.slice (some ⟨g, 0, none⟩) n cap) n (xs.set j u) := by
  refine ⟨by simpa using h.1, ?_⟩
  rcases h.2 with ⟨h0, _⟩ | ⟨g', cap', cur, hv, hb, hg, h1, h2, h3, h4⟩
  · cases h0
  · injection hv with e1 e2 e3
    injection e1 with e1
    injection e1 with e1
    subst e1 e3
    refine .inr ⟨g, cap, cur.setIfInBounds j u, rfl, hb, blk_set hg j u, h1, h2, by simpa using h3, ?_⟩
    rw [Array.toList_setIfInBounds, ← h4, List.take_set]
theorem own_cellJ {w : World} {base g n cap j : Nat} {e : TypeId} {xs : List Value} (h : w.ownsRow base e 1 (.slice (some ⟨g, 0, none⟩) n cap) n xs) {u : Value} (hu : xs[j]? = some u) : w.cell? ⟨g, j, none⟩ = some u ∧ w.frozen? ⟨g, j, none⟩ = false := by
  refine ⟨?_, ?_⟩
  · have h' := h.cells rfl j u hu
    rw [Addr.add_lit] at h'
    simpa using h'
  · rcases h.2 with ⟨h0, _⟩ | ⟨g', cap', cur, hv, hb, hg, _⟩
    · cases h0
    · injection hv with e1 e2 e3
      injection e1 with e1
      injection e1 with e1
      subst e1
      exact frozen_of_row w g j _ _ hg
/-- Cells of numbers: the first n of them are wrapped numbers. -/
def envN (l : List CellD) (n : Nat) (z : Nat → Int) : List Int := (List.range l.length).map fun i => if i < n then wrapK (cellD l i).kind (z i) else (cellD l i).init
theorem envN_len (l : List CellD) (n : Nat) (z : Nat → Int) : (envN l n z).length = l.length := by simp [envN]
theorem envN_zero (l : List CellD) (z : Nat → Int) : envN l 0 z = l.map CellD.init := by
  apply List.ext_getElem?
  intro i
  unfold envN
  rw [List.getElem?_map, List.getElem?_map]
  by_cases h : i < l.length
  · rw [List.getElem?_range h, List.getElem?_eq_getElem h]
    have hc : cellD l i = l[i] := by
      unfold cellD
      rw [if_neg (by omega), Int.toNat_natCast, List.getD_eq_getElem?_getD, List.getElem?_eq_getElem h]
      rfl
    simp [hc]
  · rw [List.getElem?_eq_none (by simp; omega), List.getElem?_eq_none (by omega)]
    rfl
theorem envN_set (l : List CellD) (n : Nat) (z : Nat → Int) (h : n < l.length) : (envN l n z).set n (wrapK (cellD l n).kind (z n)) = envN l (n + 1) z := by
  apply List.ext_getElem?
  intro i
  rw [List.getElem?_set]
  by_cases hi : i < l.length
  · unfold envN
    rw [List.getElem?_map, List.getElem?_map, List.getElem?_range hi]
    by_cases hn : n = i
    · subst hn
      simp [h]
    · rw [if_neg hn]
      simp only [Option.map_some]
      by_cases h1 : i < n
      · rw [if_pos h1, if_pos (by omega)]
      · rw [if_neg h1, if_neg (by omega)]
  · have hl := envN_len l n z
    have hl' := envN_len l (n + 1) z
    rw [if_neg (by omega), List.getElem?_eq_none (by omega), List.getElem?_eq_none (by omega)]
theorem envN_min (l : List CellD) (n : Nat) (z : Nat → Int) (h : l.length ≤ n) : envN l n z = envN l l.length z := by
  unfold envN
  apply List.map_congr_left
  intro i hi
  have := List.mem_range.1 hi
  rw [if_pos (by omega), if_pos (by omega)]
def CellsRel (w2 : World) (B : Nat) (l : List CellD) (top : Nat) (z : Nat → Int) (g cap : Nat) (i : Value) (wr : World) : Prop :=
  ∃ j : Nat, i = .int .i64 j ∧ j ≤ top ∧ wr.ownsRow B 3 1 (.slice (some ⟨g, 0, none⟩) l.length cap) l.length ((envN l j z).map (Value.int .i64)) ∧ Below B w2 wr
set_option maxHeartbeats 8000000 in
set_option maxRecDepth 100000 in
/-- An environment of numbers. -/
theorem lcellsN_any (SA : Option Addr) (n c : Nat) (l : List SymD) (Ca Fa : Option Addr) (nc cc nf cf : Nat) (NA : Option Addr) (nl nlc : Nat) (z : Nat → Int) (w : World) (hs : Syms w w.heap.size SA n l) (hn : n ≤ 10000) (hc : n ≤ c) (hcm : c ≤ 9223372036854775807) (hz : ∀ s ∈ l, s.size ≤ 64) (hpos : 0 < (cellsOf l).length) (hns : Came w NA nl nlc fun j => .int .i64 (z j)) :
    Calls Tryd.prog 20 #[.agg #[.slice SA n c, .slice Ca nc cc, .slice Fa nf cf], .slice NA nl nlc] w fun e w' => ∃ v, e = .returned v ∧ w'.ownsRow w.heap.size 3 1 v (cellsOf l).length ((envN (cellsOf l) nl z).map (Value.int .i64)) ∧ Below w.heap.size w w' := by
  have RC := Lib.hid (fun u (h : Syms u u.heap.size SA n l) => rcells_any SA n c l u h hn hc hcm hz)
  have HS := Lib.hid hs
  have hcl : (cellsOf l).length ≤ 1000000 := by
    have := cellsOf_length_le l
    have := hs.len
    omega
  have hnc1 := hns.le
  have hnc2 := hns.max
  have HNS := Lib.hid hns
  clear hs hz hns
  go_enter Tryd.func20, Tryd.ntmps20
  go_wp2_with fail
  refine (RC.out _ (by first | exact HS.out | exact (HS.out.below ((Below.refl _ w).alloc (Nat.le_refl _) _)).moreS (by simp))).mono ?_
  rintro e w1 ⟨v, rfl, hown, hb⟩
  obtain ⟨A, c1, rfl, h1, h2⟩ := own_slice hown
  unfold maxLen at h2
  have HB1 := Lib.hid (show Below w.heap.size w w1 from by first | exact hb | exact ((Below.refl _ w).alloc (Nat.le_refl _) _).trans (hb.mono (by simp)))
  have hrl := Row.of_own hown
  have HRL := Lib.hid hrl
  have BG := Lib.hid (rbegin_any A (cellsOf l).length c1 (cellsOf l) w1 hrl hcl rfl h1 (by omega))
  clear hown hb hrl
  go_wp2_with fail
  refine BG.out.mono ?_
  rintro e w2 ⟨v2, rfl, hown2, hb2⟩
  obtain ⟨g, c2, rfl, hg1, hg2⟩ := hown2.form hpos
  obtain ⟨_, c2', hx0, h3, h4⟩ := own_slice hown2
  obtain rfl : c2 = c2' := by injection hx0
  unfold maxLen at h4
  have hz1 := HB1.out.size
  have hz2 := hb2.size
  have HB2 := Lib.hid (HB1.out.trans (hb2.mono hz1))
  have HRL2 := Lib.hid ((HRL.out.below hb2))
  have HO2 := Lib.hid hown2
  generalize hL : cellsOf l = L at *
  obtain ⟨cb, co, hA, hcb, -⟩ := HRL2.out.2 hpos
  subst hA
  have h3I : (L.length : Int) ≤ c2 := by omega
  have h1I : (L.length : Int) ≤ c1 := by omega
  have hncI : (nl : Int) ≤ nlc := by omega
  have HLL := Lib.hid hL
  clear hown2 hb2 hx0 hL
  go_wp2_with fail
  go_loopw [7] (fun i wr => CellsRel w2 w1.heap.size L (min L.length nl) z g c2 i wr) (fun i _ => min L.length nl - (intOf i).toNat)
  case atStart => exact ⟨0, rfl, Nat.zero_le _, by rw [envN_zero]; exact HO2.out, Below.refl _ _⟩
  case round =>
    obtain ⟨j, rfl, hj, hown, hbw⟩ := hrel
    have HOW := Lib.hid hown
    have HBW := Lib.hid hbw
    by_cases hjl : j < min L.length nl
    · have hj1 : (j : Int) < L.length := by omega
      have hj2 : (j : Int) < nl := by omega
      obtain ⟨x, hx⟩ : ∃ x, L[j]? = some x := ⟨_, List.getElem?_eq_getElem (by omega)⟩
      obtain ⟨cb', co', hA', _, hcc⟩ := HRL2.out.2 hpos
      injection hA' with hA'
      injection hA' with q1 q2
      subst q1 q2
      have e1 : wr.cell? ⟨cb, co + j * 6 + 1, none⟩ = some (.int .i64 x.kind) := by
        have h := hcc (j * 6 + 1) _ ((flat_get cellCells 6 cellCells_length L j 1 x hx (by omega)).trans rfl)
        rw [← Nat.add_assoc] at h
        exact (dcell hbw hcb _).trans h
      obtain ⟨nb, no, hNA, hnb, hnc⟩ := HNS.out.at_ (by omega)
      have e2 : wr.cell? ⟨nb, no + j, none⟩ = some (.int .i64 (z j)) := (dcell hbw (by omega) _).trans ((dcell HB2.out hnb _).trans (hnc j (by omega)))
      obtain ⟨y, hy⟩ : ∃ y, (envN L j z)[j]? = some y := ⟨_, List.getElem?_eq_getElem (by rw [envN_len]; omega)⟩
      obtain ⟨e3, e4⟩ := own_cellJ (j := j) hown (u := .int .i64 y) (by rw [List.getElem?_map, hy]; rfl)
      have hkd : (cellD L j).kind = x.kind := by
        unfold cellD
        rw [if_neg (by omega), Int.toNat_natCast, List.getD_eq_getElem?_getD, hx]
        rfl
      have HST := Lib.hid (envN_set L j z (by omega))
      rw [hkd] at HST
      have WR := Lib.hid (fun W => rwrap_any x.kind (z j) W)
      generalize wrapK x.kind (z j) = wx at *
      have hjlt : j < L.length := by omega
      subst hNA
      clear hown hbw hx hcc hnc hkd hy
      go_wp2_with fail
      go_region_with (go_at_call 26; (with_reducible refine (WR.out _).mono ?_); rintro e _ ⟨rfl, rfl⟩)
      all_goals (go_wp2_with fail; go_roundw; (case rel => (refine ⟨j + 1, rfl, by omega, ?_, ?_⟩; (rw [← HST.out, List.map_set]; exact own_setIn HOW.out hjlt _); (repeat (first | (with_reducible exact HBW.out) | (with_reducible refine Below.setCell ?_ hg1 _) | (with_reducible refine Below.drew ?_) | (with_reducible refine below_dN _ ?_))))); (case measure => (simp [intOf]; omega)))
    · have hje : j = min L.length nl := by omega
      have hnot : ¬ (j : Int) < L.length ∨ ((j : Int) < L.length ∧ ¬ (j : Int) < nl) := by omega
      have heq : envN L j z = envN L nl z := by
        rw [hje]
        rcases Nat.le_total L.length nl with h | h
        · rw [Nat.min_eq_left h, envN_min L nl z h]
        · rw [Nat.min_eq_right h]
      rw [heq] at hown
      have HON := Lib.hid (own_mono8 hown hz1)
      clear hown hbw hje heq
      rcases hnot with hn1 | ⟨hn1, hn2⟩
      all_goals
        go_wp2_with fail
        go_ret
        exact ⟨.slice (some ⟨g, 0, none⟩) L.length c2, rfl, by rw [HLL.out]; exact HON.out, HB2.out.trans (HBW.out.mono hz1)⟩
end Go.Proofs.YtngobbbinacomaaDoor

/- Chapter 14: a run of made code, its kinds; the layout of chapter 12's variables. -/
namespace Go.Proofs.YtngobbbinacomaaDoor
open Go.RowKit Go.Proofs.YtngobbbinacomaaDoor.c11 Go.Proofs.YtngobbbinacomaaDoor.c10 Go.Proofs.YtngobbbinacomaaDoor.c13
set_option linter.unusedVariables false
set_option linter.unusedSimpArgs false
/-- A place of a function, and the stack's kinds there. -/
def PlaceK (cells : List CellD) (fn : Int) (b : List Int) (p : Int) (o : List Int) : Prop := ∃ (sp : List (Nat × List Int)) (bs st : List Int), Made cells fn sp bs st ∧ bs.length ≤ 99 ∧ b = bs ++ [0] ∧ NextAt sp bs.length st p o
theorem CodeMade.startK {cells : List CellD} {fn : Int} {b : List Int} (h : CodeMade cells fn b) : PlaceK cells fn b 0 [] := by
  obtain ⟨sp, bs, st, h1, h2, h3⟩ := h
  exact ⟨sp, bs, st, h1, h2, h3, h1.first⟩
/-- What stands at a place: the end, or an instruction that may stand there. -/
theorem PlaceK.read {cells : List CellD} {fn : Int} {b : List Int} {p : Int} {o : List Int} (h : PlaceK cells fn b p o) :
    rdL b p = ((p, p + 1, 0, 0, 0), 0) ∨ ∃ (sp : List (Nat × List Int)) (s a N : Int) (out : List Int), rdL b p = ((p, p + 1 + bearsN s, s, if 0 < bearsN s then a else 0, if s = 1 then N else 0), 0) ∧ PickOk cells o fn p sp s a N ∧ doesU cells s a.toNat o = some out ∧ out.length ≤ 8 ∧ PlaceK cells fn b (p + 1 + bearsN s) out ∧ (s = 19 → PlaceK cells fn b a out) := by
  obtain ⟨sp, bs, st, h1, h2, rfl, h4⟩ := h
  rcases h4 with ⟨rfl, rfl⟩ | ⟨x, hx, rfl, rfl⟩
  · left
    have hrd := rd_enc (bs ++ [0]) bs.length 0 0 0 [] (by simp [encB, bearsN]) (by decide) (by decide) (by decide) (by decide) (by unfold I64; omega)
    have e : rdL (bs ++ [0]) bs.length = (((bs.length : Int), (bs.length : Int) + 1 + bearsN 0, 0, if 0 < bearsN 0 then 0 else 0, if (0 : Int) = 1 then 0 else 0), 0) := hrd
    rw [e]
    simp [bearsN]
  · obtain ⟨s, a, N, out, hr⟩ := h1.read [0] x hx
    exact .inr ⟨sp, s, a, N, out, hr.rd, hr.pick, hr.does, hr.len, ⟨sp, bs, st, h1, h2, rfl, hr.next⟩, fun h => ⟨sp, bs, st, h1, h2, rfl, hr.jump h⟩⟩
/-- The functions of a sound program. -/
structure Funcs12 (cells : List CellD) (nf : Nat) (funcs : List (List Int)) : Prop where
  len : funcs.length = nf + 1
  made : ∀ (i : Nat) (b : List Int), funcs[i]? = some b → CodeMade cells (if i = 0 then (nf : Int) else 0) b
theorem jz_top {cells : List CellD} {a : Nat} {o out : List Int} (h : doesU cells 19 a o = some out) : o = out ++ [1] := by
  rcases nil_or_app o with rfl | ⟨r, b, rfl⟩
  · simp [doesU, takesN] at h
  · have h' : (if b = 1 then some r else none) = some out := by rw [du_one rfl] at h; exact h
    split at h'
    · rename_i hb
      obtain rfl := Option.some.inj h'
      rw [hb]
    · cases h'
/-- A run keeps cells values of their kinds, and ends in an error of its own, or well. -/
theorem exec_typed {E : Env} {cells : List CellD} (hlay : E.lay = cells) (hconst : E.consts = [7, -1]) (hL : LayOk cells) {nf : Nat} (hF : Funcs12 cells nf E.funcs) : ∀ (f : Nat) (fn : Int) (b : List Int) (p : Int) (o : List Int) (S : St), PlaceK cells fn b p o → fn ≤ nf → TypedS cells o S → S.left < f →
    ((execP E f b p S).2 = 0 → CellsK cells (execP E f b p S).1.cells) ∧ ((execP E f b p S).2 = 0 ∨ (execP E f b p S).2 = 21 ∨ (execP E f b p S).2 = 22 ∨ (execP E f b p S).2 = 23) := by
  intro f
  induction f with
  | zero => intro fn b p o S _ _ _ h; omega
  | succ f ih =>
    intro fn b p o S hp hfn hS hl
    rw [execP]
    by_cases h0 : S.left = 0
    · rw [if_pos h0]; exact ⟨fun _ => hS.cells, .inr (.inr (.inr rfl))⟩
    rw [if_neg h0]
    have hS' : TypedS cells o { S with left := S.left - 1, used := S.used + 1 } := ⟨hS.cells, hS.stk⟩
    have hl' : S.left - 1 < f := by omega
    rcases hp.read with hr | ⟨sp, s, a, N, out, hr, hpk, hdo, ho8, hnx, hjz⟩
    · rw [hr]
      simp only [ne_eq, not_true_eq_false, if_false, if_true]
      exact ⟨fun _ => hS.cells, by simp⟩
    rw [hr]
    simp only [ne_eq, not_true_eq_false, if_false]
    have hs0 := hpk.s0
    rw [if_neg (show ¬ s = 0 by omega), if_neg hpk.s18]
    by_cases h19 : s = 19
    · subst h19
      rw [if_pos rfl]
      obtain rfl := jz_top hdo
      obtain ⟨t, y, ht, hs1, hy⟩ := hS.stk.top
      have e1 := popS_top (S := { S with left := S.left - 1, used := S.used + 1 }) ht
      rw [e1]
      refine ih fn b _ out _ ?_ hfn ⟨hS.cells, hs1⟩ hl'
      show PlaceK cells fn b (if y = 0 then (if 0 < bearsN 19 then a else 0) else p + 1 + bearsN 19) out
      rw [if_pos (show 0 < bearsN 19 by decide)]
      split
      · exact hjz rfl
      · exact hnx
    rw [if_neg h19]
    by_cases h20 : s = 20
    · subst h20
      rw [if_pos rfl, if_pos (show 0 < bearsN 20 by decide)]
      obtain ⟨ha1, ha2⟩ := hpk.call rfl
      have hlen := hF.len
      rw [if_pos (show a < E.funcs.length by omega)]
      obtain ⟨b', hb'⟩ : ∃ b', E.funcs[a.toNat]? = some b' := ⟨_, List.getElem?_eq_getElem (by omega)⟩
      have hg : E.funcs.getD a.toNat [] = b' := by rw [List.getD_eq_getElem?_getD, hb']; rfl
      have hm := hF.made a.toNat b' hb'
      rw [if_neg (show ¬ a.toNat = 0 by omega)] at hm
      rw [hg]
      obtain ⟨k1, k2⟩ := ih 0 b' 0 [] { S with left := S.left - 1, used := S.used + 1, stk := [] } hm.startK (by omega) ⟨hS.cells, ⟨rfl, by simp⟩⟩ hl'
      have k3 := execP_left E f b' 0 { S with left := S.left - 1, used := S.used + 1, stk := [] }
      have hoo : out = o := by
        have e : doesU cells 20 a.toNat o = some o := rfl
        rw [e] at hdo
        exact (Option.some.inj hdo).symm
      subst hoo
      split
      · rename_i hz0
        refine ih fn b _ out _ hnx hfn ⟨k1 hz0, hS.stk⟩ ?_
        have k4 : (execP E f b' 0 { S with left := S.left - 1, used := S.used + 1, stk := [] }).1.left ≤ S.left - 1 := k3.1
        show (execP E f b' 0 { S with left := S.left - 1, used := S.used + 1, stk := [] }).1.left < f
        omega
      · rename_i hz0
        exact ⟨fun h => absurd h hz0, k2⟩
    rw [if_neg h20]
    have hk := doP_keeps E { S with left := S.left - 1, used := S.used + 1 } s (if 0 < bearsN s then a else 0) (if s = 1 then N else 0)
    rcases doP_typed hlay hconst hL hpk hdo h19 h20 hS' with ⟨hz, ht⟩ | he
    · rw [if_pos hz]
      refine ih fn b _ out _ hnx hfn ht ?_
      have := hk.left
      simp only at this
      omega
    · rw [if_neg (by omega)]
      exact ⟨fun h => by omega, by omega⟩
def layB (cells : List CellD) : Bool := (List.range cells.length).all fun a => (List.range (cellD cells a).len.toNat).all fun i => decide (a + i < cells.length) && decide ((cellD cells (a + i : Nat)).kind = (cellD cells a).kind)
def kindsAt (cells : List CellD) (a : Nat) : List Int := (List.range 6).map fun j => (cellD cells (a + j : Nat)).kind
def blkB (cells : List CellD) : Bool := (List.range cells.length).all fun a => decide ((cellD cells a).block = 0) || (decide (a + 6 ≤ cells.length) && (decide ((cellD cells a).block = 9) && decide (kindsAt cells a = [1, 6, 1, 6, 6, 1]) || decide ((cellD cells a).block = 10) && decide (kindsAt cells a = [1, 1, 5, 1, 5, 1])))
theorem kindsAt_get {cells : List CellD} {a j : Nat} {k : Int} {l : List Int} (h : kindsAt cells a = l) (hj : l[j]? = some k) : (cellD cells (a + j : Nat)).kind = k := by
  rw [← h] at hj
  unfold kindsAt at hj
  have hj6 : j < 6 := by have := (List.getElem?_eq_some_iff.1 hj).1; simpa using this
  rw [List.getElem?_map, List.getElem?_range hj6] at hj
  exact Option.some.inj hj
theorem layOk_of {cells : List CellD} (hk : KindsOk cells) (h1 : layB cells = true) (h2 : blkB cells = true) : LayOk cells := by
  refine ⟨hk, fun a i ha h0 hi => ?_, fun a ha hb => ?_⟩
  · have h := List.all_eq_true.1 h1 a (List.mem_range.2 ha)
    have h := List.all_eq_true.1 h i.toNat (List.mem_range.2 (by omega))
    simpa using h
  · have h := List.all_eq_true.1 h2 a (List.mem_range.2 ha)
    simp [hb] at h
    obtain ⟨q1, q2⟩ := h
    refine ⟨q1, ?_⟩
    rcases q2 with ⟨e1, e2⟩ | ⟨e1, e2⟩
    · exact .inl ⟨e1, fun j k hj => kindsAt_get e2 hj⟩
    · exact .inr ⟨e1, fun j k hj => kindsAt_get e2 hj⟩
theorem symsP_lay (longer : Bool) : LayOk (cellsOf (symsP longer)) := by
  cases longer
  · exact layOk_of (symsP_kinds false) (by kernel_rfl) (by kernel_rfl)
  · exact layOk_of (symsP_kinds true) (by kernel_rfl) (by kernel_rfl)
theorem symsP_init (longer : Bool) : ∀ c ∈ cellsOf (symsP longer), IsK c.kind c.init := by
  intro c hc
  have h : (cellsOf (symsP longer)).all (fun c => decide (wrapK c.kind c.init = c.init)) = true := by cases longer <;> kernel_rfl
  have h' : wrapK c.kind c.init = c.init := of_decide_eq_true (List.all_eq_true.1 h c hc)
  exact h'
theorem envN_cellsK {L : List CellD} (h : ∀ c ∈ L, IsK c.kind c.init) (n : Nat) (z : Nat → Int) : CellsK L (envN L n z) := by
  refine ⟨envN_len L n z, fun i c x hc hx => ?_⟩
  have hi := (List.getElem?_eq_some_iff.1 hc).1
  unfold envN at hx
  rw [List.getElem?_map, List.getElem?_range hi] at hx
  simp only [Option.map_some, Option.some.injEq, cellD_at hc] at hx
  rw [← hx]
  split
  · exact wrapK_idem _ _
  · exact h c (List.mem_of_getElem? hc)
end Go.Proofs.YtngobbbinacomaaDoor
