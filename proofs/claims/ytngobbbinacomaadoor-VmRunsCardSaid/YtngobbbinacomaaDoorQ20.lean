/- Chapter 12's pick: an instruction that may stand there. -/
import Derived.Test.YtngobbbinacomaaDoorQ19
import Derived.Deep.QuietTactic
import Derived.BigQuiet
import Derived.Deep.RegionHeld3
import Derived.BigRegion
namespace Go.Proofs.YtngobbbinacomaaDoor
open Go.RowKit Go.Proofs.YtngobbbinacomaaDoor.c11 Go.Proofs.YtngobbbinacomaaDoor.c10
set_option linter.unusedVariables false
set_option linter.unusedSimpArgs false
attribute [local go_sem ↓] Go.wp_at_zero Go.wp_at_succ
/-- A row of spots, as it lies: two cells each. -/
structure SpotsAt (w : World) (B : Nat) (P : Option Addr) (sp : List (Nat × List Int)) : Prop where
  at_ : 0 < sp.length → ∃ b off, P = some ⟨b, off, none⟩ ∧ b < B ∧ ∀ (i : Nat) (x : Nat × List Int), sp[i]? = some x → ∃ A c, w.cell? ⟨b, off + i * 2, none⟩ = some (.int .i64 x.1) ∧ w.cell? ⟨b, off + i * 2 + 1, none⟩ = some (.slice A x.2.length c) ∧ x.2.length ≤ c ∧ c ≤ 9223372036854775807 ∧ Row w B 1 A x.2.length (x.2.map (Value.int .i64))
theorem SpotsAt.below {w w' : World} {B : Nat} {P : Option Addr} {sp : List (Nat × List Int)} (h : SpotsAt w B P sp) (hb : Below B w w') : SpotsAt w' B P sp :=
  ⟨fun h0 => by
    obtain ⟨b, off, hP, hlt, hs⟩ := h.at_ h0
    refine ⟨b, off, hP, hlt, fun i x hi => ?_⟩
    obtain ⟨A, c, c0, c1, h1, h2, h3⟩ := hs i x hi
    exact ⟨A, c, (dcell hb hlt _).trans c0, (dcell hb hlt _).trans c1, h1, h2, h3.below hb⟩⟩
theorem SpotsAt.more {w : World} {B B' : Nat} {P : Option Addr} {sp : List (Nat × List Int)} (h : SpotsAt w B P sp) (hB : B ≤ B') : SpotsAt w B' P sp :=
  ⟨fun h0 => by
    obtain ⟨b, off, hP, hlt, hs⟩ := h.at_ h0
    refine ⟨b, off, hP, by omega, fun i x hi => ?_⟩
    obtain ⟨A, c, c0, c1, h1, h2, h3⟩ := hs i x hi
    exact ⟨A, c, c0, c1, h1, h2, h3.more hB⟩⟩
/-- What pick leaves. -/
def PickBack (w : World) (cells : List CellD) (st : List Int) (funcs at_ : Int) (sp : List (Nat × List Int)) (e : Ending) (w' : World) : Prop :=
  (∃ s a N : Int, e = .returned (.agg #[.int .i64 0, .int .i64 0, .int .i64 s, .int .i64 a, .int .i64 N]) ∧ PickOk cells st funcs at_ sp s a N) ∧ Below w.heap.size w w'
theorem pickBack {w : World} {cells : List CellD} {st : List Int} {funcs at_ : Int} {sp : List (Nat × List Int)} {w' : World} {s a N : Int} (h : PickOk cells st funcs at_ sp s a N) (hb : Below w.heap.size w w') :
    PickBack w cells st funcs at_ sp (.returned (.agg #[.int .i64 0, .int .i64 0, .int .i64 s, .int .i64 a, .int .i64 N])) w' := ⟨⟨s, a, N, rfl, h⟩, hb⟩
/-- A cell's kind, its length, its block, where they lie. -/
theorem cell_at {w : World} {B : Nat} {A : Option Addr} {cells : List CellD} (hr : Row w B 6 A cells.length (cellRow cells)) (q : Nat) (hq : q < cells.length) :
    ∃ b off x, A = some ⟨b, off, none⟩ ∧ b < B ∧ cells[q]? = some x ∧ w.cell? ⟨b, off + q * 6 + 1, none⟩ = some (.int .i64 x.kind) ∧ w.cell? ⟨b, off + q * 6 + 4, none⟩ = some (.int .i64 x.len) ∧ w.cell? ⟨b, off + q * 6 + 5, none⟩ = some (.int .i64 x.block) := by
  obtain ⟨x, hx⟩ : ∃ x, cells[q]? = some x := ⟨_, List.getElem?_eq_getElem hq⟩
  obtain ⟨b, off, hA, hb, hcc⟩ := hr.2 (by omega)
  have h := fun j u (hj : j < 6) (hu : (cellCells x)[j]? = some u) => hcc (q * 6 + j) u ((flat_get cellCells 6 cellCells_length cells q j x hx hj).trans hu)
  simp only [← Nat.add_assoc] at h
  exact ⟨b, off, x, hA, hb, hx, h 1 _ (by decide) rfl, h 4 _ (by decide) rfl, h 5 _ (by decide) rfl⟩
theorem cell_row {w W : World} {B cb co : Nat} {cells : List CellD} (hr : Row w B 6 (some ⟨cb, co, none⟩) cells.length (cellRow cells)) (hb : Below B w W) (q : Nat) (hq : q < cells.length) :
    ∃ x, cells[q]? = some x ∧ W.cell? ⟨cb, co + q * 6 + 1, none⟩ = some (.int .i64 x.kind) ∧ W.cell? ⟨cb, co + q * 6 + 4, none⟩ = some (.int .i64 x.len) ∧ W.cell? ⟨cb, co + q * 6 + 5, none⟩ = some (.int .i64 x.block) := by
  obtain ⟨b, off, x, hA, hlt, hx, e1, e4, e5⟩ := cell_at hr q hq
  injection hA with hA
  injection hA with h1 h2
  subst h1 h2
  exact ⟨x, hx, (dcell hb hlt _).trans e1, (dcell hb hlt _).trans e4, (dcell hb hlt _).trans e5⟩
theorem within12_at (b : Int) (n : Nat) (hn : 0 < n) (hn' : n ≤ 4000000) : ∃ q : Nat, q < n ∧ ∀ (a : Int) (h : a = b) (w : World), Calls Tryd.prog 35 #[.int .i64 a, .int .i64 n] w fun e w' => e = .returned (.int .i64 q) ∧ w = w' := by
  have h1 := Int.emod_nonneg b (show (n : Int) ≠ 0 by omega)
  have h2 := Int.emod_lt_of_pos b (show (0 : Int) < n by omega)
  refine ⟨(b % n).toNat, by omega, fun a h w => ?_⟩
  subst h
  refine (within12_any a n (by omega) (by omega) w).mono ?_
  rintro e w' ⟨rfl, rfl⟩
  exact ⟨by rw [Int.toNat_of_nonneg h1], rfl⟩
theorem within12_int (b : Int) (n : Int) (hn : 0 < n) (hn' : n ≤ 4000000) : ∃ q : Int, (0 ≤ q ∧ q < n) ∧ ∀ (a : Int) (h : a = b) (w : World), Calls Tryd.prog 35 #[.int .i64 a, .int .i64 n] w fun e w' => e = .returned (.int .i64 q) ∧ w = w' := by
  have h1 := Int.emod_nonneg b (show n ≠ 0 by omega)
  have h2 := Int.emod_lt_of_pos b hn
  refine ⟨b % n, ⟨h1, h2⟩, fun a h w => ?_⟩
  subst h
  exact within12_any a n hn (by omega) w
theorem cellD_at {cells : List CellD} {q : Nat} {x : CellD} (h : cells[q]? = some x) : cellD cells q = x := by
  have hl := (List.getElem?_eq_some_iff.1 h).1
  unfold cellD
  rw [if_neg (by omega), Int.toNat_natCast, List.getD_eq_getElem?_getD, h]
  rfl
-- what each kind of instruction needs
theorem po_push {cells : List CellD} {st : List Int} {funcs at_ : Int} {sp : List (Nat × List Int)} (q : Nat) (hq : q < 6) (X : Int) (hX : I64 X) (hw : wrapK (1 + (q : Int)) X = X) : PickOk cells st funcs at_ sp 1 (1 + (q : Int)) X := by
  refine ⟨by decide, by decide, by decide, by omega, by omega, hX, ?_, ⟨_, rfl⟩, (fun h => absurd h (by decide)), (fun h => absurd h (by decide)), .inl rfl⟩
  simp [bearsB, isVal, hw]
  omega
theorem po_load {cells : List CellD} {st : List Int} {funcs at_ : Int} {sp : List (Nat × List Int)} (q : Nat) (hq : q < cells.length) (hl : cells.length ≤ 200) : PickOk cells st funcs at_ sp 3 q 0 := by
  refine ⟨by decide, by decide, by decide, by omega, by omega, by unfold I64; omega, ?_, ⟨_, rfl⟩, (fun h => absurd h (by decide)), (fun h => absurd h (by decide)), .inr (.inl rfl)⟩
  simp [bearsB]
  omega
theorem po_in {cells : List CellD} {st : List Int} {funcs at_ : Int} {sp : List (Nat × List Int)} (q : Nat) (hq : q < 4) : PickOk cells st funcs at_ sp 24 q 0 := by
  refine ⟨by decide, by decide, by decide, by omega, by omega, by unfold I64; omega, ?_, ⟨_, rfl⟩, (fun h => absurd h (by decide)), (fun h => absurd h (by decide)), .inr (.inr (.inl rfl))⟩
  simp [bearsB]
  omega
theorem po_now {cells : List CellD} {st : List Int} {funcs at_ : Int} {sp : List (Nat × List Int)} : PickOk cells st funcs at_ sp 26 0 0 :=
  ⟨by decide, by decide, by decide, by decide, by decide, by unfold I64; omega, rfl, ⟨_, rfl⟩, (fun h => absurd h (by decide)), (fun h => absurd h (by decide)), .inr (.inr (.inr (.inl rfl)))⟩
theorem topB_cases {st : List Int} {k : Int} (h : topB st k = true) : ∃ r, st = r ++ [k] := by
  have h := of_decide_eq_true h
  rcases nil_or_app st with rfl | ⟨r, b, rfl⟩
  · simp at h
  · simp at h; subst h; exact ⟨r, rfl⟩
theorem du_one {cells : List CellD} {s : Int} {a : Nat} {r : List Int} {b : Int} (h : takesN s = 1) : doesU cells s a (r ++ [b]) = does1 cells s a r b := by
  unfold doesU
  rw [if_neg (by rw [h]; decide), if_pos h]
  simp
theorem du_two {cells : List CellD} {s : Int} {a : Nat} {r : List Int} {b c : Int} (h : takesN s = 2) : doesU cells s a (r ++ [c, b]) = does2 cells s a r c b := by
  unfold doesU
  rw [if_neg (by rw [h]; decide), if_neg (by rw [h]; decide)]
  simp
theorem po_store {cells : List CellD} {st : List Int} {funcs at_ : Int} {sp : List (Nat × List Int)} (q : Nat) (x : CellD) (hx : cells[q]? = some x) (hl : cells.length ≤ 200) (ht : topB st x.kind = true) : PickOk cells st funcs at_ sp 4 q 0 := by
  obtain ⟨r, rfl⟩ := topB_cases ht
  have hq := (List.getElem?_eq_some_iff.1 hx).1
  have e : doesU cells 4 (q : Int).toNat (r ++ [x.kind]) = some r := by
    rw [du_one rfl, Int.toNat_natCast]
    simp [does1, cellD_at hx]
  refine ⟨by decide, by decide, by decide, by omega, by omega, by unfold I64; omega, by simp [bearsB]; omega, ⟨_, e⟩, (fun h => absurd h (by decide)), (fun h => absurd h (by decide)), .inr (.inr (.inr (.inr (.inr ?_))))⟩
  intro o ho
  rw [e] at ho
  obtain rfl := Option.some.inj ho
  simp
theorem po_out {cells : List CellD} {st : List Int} {funcs at_ : Int} {sp : List (Nat × List Int)} (q : Nat) (hq : q < 4) (ht : topB st 5 = true) : PickOk cells st funcs at_ sp 25 q 0 := by
  obtain ⟨r, rfl⟩ := topB_cases ht
  have e : doesU cells 25 (q : Int).toNat (r ++ [5]) = some r := by
    rw [du_one rfl]
    simp [does1]
  refine ⟨by decide, by decide, by decide, by omega, by omega, by unfold I64; omega, by simp [bearsB]; omega, ⟨_, e⟩, (fun h => absurd h (by decide)), (fun h => absurd h (by decide)), .inr (.inr (.inr (.inr (.inr ?_))))⟩
  intro o ho
  rw [e] at ho
  obtain rfl := Option.some.inj ho
  simp
theorem po_loadx {cells : List CellD} {st : List Int} {funcs at_ : Int} {sp : List (Nat × List Int)} (q : Nat) (x : CellD) (hx : cells[q]? = some x) (hl : cells.length ≤ 200) (hxl : 0 < x.len) (ht : topB st 5 = true) : PickOk cells st funcs at_ sp 5 q 0 := by
  obtain ⟨r, rfl⟩ := topB_cases ht
  have hq := (List.getElem?_eq_some_iff.1 hx).1
  have e : doesU cells 5 (q : Int).toNat (r ++ [5]) = some (r ++ [x.kind]) := by
    rw [du_one rfl, Int.toNat_natCast]
    simp [does1, cellD_at hx]
  refine ⟨by decide, by decide, by decide, by omega, by omega, by unfold I64; omega, by simp [bearsB, cellD_at hx]; omega, ⟨_, e⟩, (fun h => absurd h (by decide)), (fun h => absurd h (by decide)), .inr (.inr (.inr (.inr (.inr ?_))))⟩
  intro o ho
  rw [e] at ho
  obtain rfl := Option.some.inj ho
  simp
theorem po_jz {cells : List CellD} {st : List Int} {funcs at_ : Int} {sp : List (Nat × List Int)} (a : Int) (h0 : 0 ≤ a) (h1 : a < 256) (ht : topB st 1 = true) (hj : a = at_ + 2 ∨ ∃ x ∈ sp, a = x.1 ∧ x.2 = st.dropLast) : PickOk cells st funcs at_ sp 19 a 0 := by
  obtain ⟨r, rfl⟩ := topB_cases ht
  have e : doesU cells 19 a.toNat (r ++ [1]) = some r := by
    rw [du_one rfl]
    simp [does1]
  refine ⟨by decide, by decide, by decide, h0, h1, by unfold I64; omega, rfl, ⟨_, e⟩, fun _ => hj, (fun h => absurd h (by decide)), .inr (.inr (.inr (.inr (.inr ?_))))⟩
  intro o ho
  rw [e] at ho
  obtain rfl := Option.some.inj ho
  simp
theorem po_call {cells : List CellD} {st : List Int} {funcs at_ : Int} {sp : List (Nat × List Int)} (q : Nat) (hq : (q : Int) < funcs) (hf : funcs ≤ 2) : PickOk cells st funcs at_ sp 20 (1 + (q : Int)) 0 := by
  have e : doesU cells 20 (1 + (q : Int)).toNat st = some st := rfl
  refine ⟨by decide, by decide, by decide, by omega, by omega, by unfold I64; omega, by simp [bearsB]; omega, ⟨_, e⟩, (fun h => absurd h (by decide)), fun _ => by omega, .inr (.inr (.inr (.inr (.inr ?_))))⟩
  intro o ho
  rw [e] at ho
  obtain rfl := Option.some.inj ho
  exact Nat.le_refl _
theorem po_block {cells : List CellD} {st : List Int} {funcs at_ : Int} {sp : List (Nat × List Int)} (q : Nat) (x : CellD) (hx : cells[q]? = some x) (hl : cells.length ≤ 200) (hxl : 0 < x.block) : PickOk cells st funcs at_ sp 27 q 0 := by
  have hq := (List.getElem?_eq_some_iff.1 hx).1
  have e : doesU cells 27 (q : Int).toNat st = some st := rfl
  refine ⟨by decide, by decide, by decide, by omega, by omega, by unfold I64; omega, by simp [bearsB, cellD_at hx]; omega, ⟨_, e⟩, (fun h => absurd h (by decide)), (fun h => absurd h (by decide)), .inr (.inr (.inr (.inr (.inr ?_))))⟩
  intro o ho
  rw [e] at ho
  obtain rfl := Option.some.inj ho
  exact Nat.le_refl _
theorem po_one {cells : List CellD} {st : List Int} {funcs at_ : Int} {sp : List (Nat × List Int)} (q : Nat) (hq : q < 6) (s : Int) (hs : s = 21 ∨ s = 22 ∨ s = 23) (h0 : st ≠ []) : PickOk cells st funcs at_ sp s (1 + (q : Int)) 0 := by
  rcases nil_or_app st with rfl | ⟨r, b, rfl⟩
  · exact absurd rfl h0
  rcases hs with rfl | rfl | rfl
  · have e : doesU cells 21 (1 + (q : Int)).toNat (r ++ [b]) = some (r ++ [b, b]) := by rw [du_one rfl]; simp [does1]
    exact ⟨by decide, by decide, by decide, by omega, by omega, by unfold I64; omega, rfl, ⟨_, e⟩, (fun h => absurd h (by decide)), (fun h => absurd h (by decide)), .inr (.inr (.inr (.inr (.inl rfl))))⟩
  · have e : doesU cells 22 (1 + (q : Int)).toNat (r ++ [b]) = some r := by rw [du_one rfl]; simp [does1]
    refine ⟨by decide, by decide, by decide, by omega, by omega, by unfold I64; omega, rfl, ⟨_, e⟩, (fun h => absurd h (by decide)), (fun h => absurd h (by decide)), .inr (.inr (.inr (.inr (.inr ?_))))⟩
    intro o ho
    rw [e] at ho
    obtain rfl := Option.some.inj ho
    simp
  · have e : doesU cells 23 (1 + (q : Int)).toNat (r ++ [b]) = some (r ++ [(((1 + (q : Int)).toNat : Nat) : Int)]) := by rw [du_one rfl]; simp [does1]
    refine ⟨by decide, by decide, by decide, by omega, by omega, by unfold I64; omega, by simp [bearsB, isVal]; omega, ⟨_, e⟩, (fun h => absurd h (by decide)), (fun h => absurd h (by decide)), .inr (.inr (.inr (.inr (.inr ?_))))⟩
    intro o ho
    rw [e] at ho
    obtain rfl := Option.some.inj ho
    simp
theorem po_two {cells : List CellD} {r : List Int} {b : Int} {funcs at_ : Int} {sp : List (Nat × List Int)} (s : Int) (h : takesN s = 2 ∧ 0 < s ∧ s ≤ 27 ∧ s ≠ 6 ∧ kindE s b b = 0) : PickOk cells (r ++ [b, b]) funcs at_ sp s 0 0 := by
  obtain ⟨h1, h2, h3, h4, h5⟩ := h
  have e : doesU cells s (0 : Int).toNat (r ++ [b, b]) = some (r ++ [kindM s b b]) := by
    rw [du_two h1]
    simp [does2, h4, h5]
  have n1 : s ≠ 1 := by rintro rfl; cases h1
  have n2 : s ≠ 2 := by rintro rfl; cases h1
  have n3 : s ≠ 3 := by rintro rfl; cases h1
  have n4 : s ≠ 4 := by rintro rfl; cases h1
  have n5 : s ≠ 5 := by rintro rfl; cases h1
  have n18 : s ≠ 18 := by rintro rfl; cases h1
  have n19 : s ≠ 19 := by rintro rfl; cases h1
  have n20 : s ≠ 20 := by rintro rfl; cases h1
  have n23 : s ≠ 23 := by rintro rfl; cases h1
  have n24 : s ≠ 24 := by rintro rfl; cases h1
  have n25 : s ≠ 25 := by rintro rfl; cases h1
  have n27 : s ≠ 27 := by rintro rfl; cases h1
  refine ⟨h2, h3, n18, by decide, by decide, by unfold I64; omega, by simp [bearsB, n1, n2, n3, n4, n5, h4, n20, n23, n24, n25, n27], ⟨_, e⟩, fun h => absurd h n19, fun h => absurd h n20, .inr (.inr (.inr (.inr (.inr ?_))))⟩
  intro o ho
  rw [e] at ho
  obtain rfl := Option.some.inj ho
  simp
theorem five_below {W W' : World} {b : Nat} {a0 a1 a2 a3 a4 : Int} (h : Five W b a0 a1 a2 a3 a4) (hb : Below W.heap.size W W') (hlt : b < W.heap.size) : Five W' b a0 a1 a2 a3 a4 := by
  obtain ⟨c0, c1, c2, c3, c4, f0, f1, f2, f3, f4⟩ := h
  exact ⟨(dcell hb hlt 0).trans c0, (dcell hb hlt 1).trans c1, (dcell hb hlt 2).trans c2, (dcell hb hlt 3).trans c3, (dcell hb hlt 4).trans c4, (dfroz hb hlt 0).trans f0, (dfroz hb hlt 1).trans f1, (dfroz hb hlt 2).trans f2, (dfroz hb hlt 3).trans f3, (dfroz hb hlt 4).trans f4⟩
theorem keepX {u1 W' : World} {B m : Nat} {v0 v1 : Value} (hb : Below B u1 W') (h : m < B) (k0 : u1.cell? ⟨m, 0, none⟩ = some v0) (k1 : u1.cell? ⟨m, 1, none⟩ = some v1) : W'.cell? ⟨m, 0, none⟩ = some v0 ∧ W'.cell? ⟨m, 1, none⟩ = some v1 := ⟨(dcell hb h 0).trans k0, (dcell hb h 1).trans k1⟩
/-- A loop's relation: the box of the result stays empty. -/
def PRel (w : World) (top : Nat) (i : Value) (wr : World) : Prop := ∃ j : Nat, i = .int .i64 j ∧ j ≤ top ∧ Below w.heap.size w wr ∧ Five wr w.heap.size 0 0 0 0 0 ∧ w.heap.size < wr.heap.size
theorem pwrap (q X : Int) (W : World) : Calls Tryd.prog 26 #[.int .i64 q, .int .i64 X] W fun e w' => ∃ Y, (I64 X → I64 Y) ∧ wrapK q Y = Y ∧ e = .returned (.int .i64 Y) ∧ W = w' := by
  refine (rwrap_any q X W).mono ?_
  rintro e w' ⟨rfl, rfl⟩
  exact ⟨_, wrapK_I64 q X, wrapK_idem q X, rfl, rfl⟩
set_option maxHeartbeats 8000000 in
set_option maxRecDepth 100000 in
theorem pick_0 (A : Option Addr) (c : Nat) (cells : List CellD) (n : Int) (S : Option Addr) (cs : Nat) (st : List Int) (funcs : Nat) (at_ : Nat) (P : Option Addr) (cp : Nat) (sp : List (Nat × List Int)) (w : World) (hn : I64 n) (hr : Row w w.heap.size 6 A cells.length (cellRow cells)) (hc : cells.length ≤ c) (hcl : 0 < cells.length ∧ cells.length ≤ 200)
    (hs : Row w w.heap.size 1 S st.length (st.map (Value.int .i64))) (hsc : st.length ≤ cs) (hs8 : st.length ≤ 8) (hsk : ∀ x ∈ st, 1 ≤ x ∧ x ≤ 6) (hf : funcs ≤ 2) (hat : at_ < 100) (hp : SpotsAt w w.heap.size P sp) (hpc : sp.length ≤ cp) (hpl : sp.length ≤ 100) (hpa : ∀ x ∈ sp, x.1 < 200 ∧ x.2.length ≤ 8) (h16 : n % 16 = 0) :
    Calls Tryd.prog 48 #[.slice A cells.length c, .int .i64 n, .slice S st.length cs, .int .i64 funcs, .int .i64 at_, .slice P sp.length cp] w (PickBack w cells st funcs at_ sp) := by
  have W16 := Lib.hid (fun W => show Calls Tryd.prog 35 #[.int .i64 n, .int .i64 16] W (fun e w' => e = .returned (.int .i64 0) ∧ W = w') from by have h := within12_any n 16 (by decide) (by decide) W; rw [h16] at h; exact h)
  have W4 := Lib.hid (fun (a : Int) (W : World) => show Calls Tryd.prog 35 #[.int .i64 a, .int .i64 4] W (fun e w' => ∃ q : Nat, q < 4 ∧ e = .returned (.int .i64 q) ∧ W = w') from within12_nat a 4 (by decide) (by decide) W)
  have W6 := Lib.hid (fun (a : Int) (W : World) => show Calls Tryd.prog 35 #[.int .i64 a, .int .i64 6] W (fun e w' => ∃ q : Nat, q < 6 ∧ e = .returned (.int .i64 q) ∧ W = w') from within12_nat a 6 (by decide) (by decide) W)
  have WL := Lib.hid (fun a W => within12_nat a cells.length hcl.1 (by omega) W)
  obtain ⟨K, hK⟩ : ∃ K, IntKind.i64.wrap (n.tdiv 32) = K := ⟨_, rfl⟩
  obtain ⟨hcl0, hcl1⟩ := hcl
  have hcI : (cells.length : Int) ≤ c := by omega
  have hcl2 : (cells.length : Int) ≤ 200 := by omega
  clear h16 hr hs hp hpa hsk
  have HQ6 := Lib.hid (show ∀ q : Nat, q < 6 → (q : Int) < 6 from fun q h => by omega)
  have HF0 := Lib.hid (show Five (w.alloc (.cells #[.int .i64 0, .int .i64 0, .int .i64 0, .int .i64 0, .int .i64 0] 67)) w.heap.size 0 0 0 0 0 from by constructor <;> go_simp)
  have HB0 := Lib.hid (show Below w.heap.size w (w.alloc (.cells #[.int .i64 0, .int .i64 0, .int .i64 0, .int .i64 0, .int .i64 0] 67)) from (Below.refl _ w).alloc (Nat.le_refl _) _)
  have hlt0 : w.heap.size < (w.alloc (.cells #[.int .i64 0, .int .i64 0, .int .i64 0, .int .i64 0, .int .i64 0] 67)).heap.size := by simp
  go_enter Tryd.func48, Tryd.ntmps48
  go_wp2_with (first | (go_at_call 35; first | ((with_reducible refine (W16.out _).mono ?_); rintro e _ ⟨rfl, rfl⟩) | ((with_reducible refine (W6.out _ _).mono ?_); rintro e _ ⟨q6, hq6, rfl, rfl⟩; have hq7 := HQ6.out _ hq6)) | (go_at_call 26; refine (pwrap _ _ _).mono ?_; rintro e _ ⟨Y, hYI, hYw, rfl, rfl⟩; have hYi := hYI (by first | exact wrap64_I64 _ | exact i64wrap_I64 _)))
  refine bodyPost_ret (v := .agg #[.int .i64 0, .int .i64 0, .int .i64 1, .int .i64 (1 + (q6 : Int)), .int .i64 (Y)]) ((fun (W : World) (h : Cells5 W w.heap.size 0 0 (1) (1 + (q6 : Int)) (Y)) => (by obtain ⟨c0, c1, c2, c3, c4⟩ := h; simp [results, Tryd.results48, go_sem, c0, c1, c2, c3, c4] : (results _ _).run _ W = .ok _ W)) _ (by constructor <;> (go_simp; try exact IntWalk.i64_in _ (by omega)))) rfl (pickBack (po_push _ hq6 _ hYi hYw) (by repeat (first | (with_reducible exact Below.refl _ _) | (with_reducible exact HB0.out) | (with_reducible refine Below.setCell ?_ (by first | omega | (simp; done) | (simp; omega)) _) | (with_reducible refine Below.drew ?_) | (with_reducible refine below_dN _ ?_) | (with_reducible refine Below.alloc ?_ (by first | omega | (simp; done) | (simp; omega)) _))))
set_option maxHeartbeats 8000000 in
set_option maxRecDepth 100000 in
theorem pick_1 (A : Option Addr) (c : Nat) (cells : List CellD) (n : Int) (S : Option Addr) (cs : Nat) (st : List Int) (funcs : Nat) (at_ : Nat) (P : Option Addr) (cp : Nat) (sp : List (Nat × List Int)) (w : World) (hn : I64 n) (hr : Row w w.heap.size 6 A cells.length (cellRow cells)) (hc : cells.length ≤ c) (hcl : 0 < cells.length ∧ cells.length ≤ 200)
    (hs : Row w w.heap.size 1 S st.length (st.map (Value.int .i64))) (hsc : st.length ≤ cs) (hs8 : st.length ≤ 8) (hsk : ∀ x ∈ st, 1 ≤ x ∧ x ≤ 6) (hf : funcs ≤ 2) (hat : at_ < 100) (hp : SpotsAt w w.heap.size P sp) (hpc : sp.length ≤ cp) (hpl : sp.length ≤ 100) (hpa : ∀ x ∈ sp, x.1 < 200 ∧ x.2.length ≤ 8) (h16 : n % 16 = 1) :
    Calls Tryd.prog 48 #[.slice A cells.length c, .int .i64 n, .slice S st.length cs, .int .i64 funcs, .int .i64 at_, .slice P sp.length cp] w (PickBack w cells st funcs at_ sp) := by
  have W16 := Lib.hid (fun W => show Calls Tryd.prog 35 #[.int .i64 n, .int .i64 16] W (fun e w' => e = .returned (.int .i64 1) ∧ W = w') from by have h := within12_any n 16 (by decide) (by decide) W; rw [h16] at h; exact h)
  have W4 := Lib.hid (fun (a : Int) (W : World) => show Calls Tryd.prog 35 #[.int .i64 a, .int .i64 4] W (fun e w' => ∃ q : Nat, q < 4 ∧ e = .returned (.int .i64 q) ∧ W = w') from within12_nat a 4 (by decide) (by decide) W)
  have W6 := Lib.hid (fun (a : Int) (W : World) => show Calls Tryd.prog 35 #[.int .i64 a, .int .i64 6] W (fun e w' => ∃ q : Nat, q < 6 ∧ e = .returned (.int .i64 q) ∧ W = w') from within12_nat a 6 (by decide) (by decide) W)
  have WL := Lib.hid (fun a W => within12_nat a cells.length hcl.1 (by omega) W)
  obtain ⟨K, hK⟩ : ∃ K, IntKind.i64.wrap (n.tdiv 32) = K := ⟨_, rfl⟩
  obtain ⟨hcl0, hcl1⟩ := hcl
  have hcI : (cells.length : Int) ≤ c := by omega
  have hcl2 : (cells.length : Int) ≤ 200 := by omega
  clear h16 hr hs hp hpa hsk
  have HQ6 := Lib.hid (show ∀ q : Nat, q < 6 → (q : Int) < 6 from fun q h => by omega)
  have HF0 := Lib.hid (show Five (w.alloc (.cells #[.int .i64 0, .int .i64 0, .int .i64 0, .int .i64 0, .int .i64 0] 67)) w.heap.size 0 0 0 0 0 from by constructor <;> go_simp)
  have HB0 := Lib.hid (show Below w.heap.size w (w.alloc (.cells #[.int .i64 0, .int .i64 0, .int .i64 0, .int .i64 0, .int .i64 0] 67)) from (Below.refl _ w).alloc (Nat.le_refl _) _)
  have hlt0 : w.heap.size < (w.alloc (.cells #[.int .i64 0, .int .i64 0, .int .i64 0, .int .i64 0, .int .i64 0] 67)).heap.size := by simp
  go_enter Tryd.func48, Tryd.ntmps48
  go_wp2_with (first | (go_at_call 35; first | ((with_reducible refine (W16.out _).mono ?_); rintro e _ ⟨rfl, rfl⟩) | ((with_reducible refine (W6.out _ _).mono ?_); rintro e _ ⟨q6, hq6, rfl, rfl⟩; have hq7 := HQ6.out _ hq6)) | (go_at_call 26; refine (pwrap _ _ _).mono ?_; rintro e _ ⟨Y, hYI, hYw, rfl, rfl⟩; have hYi := hYI (by first | exact wrap64_I64 _ | exact i64wrap_I64 _)))
  refine bodyPost_ret (v := .agg #[.int .i64 0, .int .i64 0, .int .i64 1, .int .i64 (1 + (q6 : Int)), .int .i64 (Y)]) ((fun (W : World) (h : Cells5 W w.heap.size 0 0 (1) (1 + (q6 : Int)) (Y)) => (by obtain ⟨c0, c1, c2, c3, c4⟩ := h; simp [results, Tryd.results48, go_sem, c0, c1, c2, c3, c4] : (results _ _).run _ W = .ok _ W)) _ (by constructor <;> (go_simp; try exact IntWalk.i64_in _ (by omega)))) rfl (pickBack (po_push _ hq6 _ hYi hYw) (by repeat (first | (with_reducible exact Below.refl _ _) | (with_reducible exact HB0.out) | (with_reducible refine Below.setCell ?_ (by first | omega | (simp; done) | (simp; omega)) _) | (with_reducible refine Below.drew ?_) | (with_reducible refine below_dN _ ?_) | (with_reducible refine Below.alloc ?_ (by first | omega | (simp; done) | (simp; omega)) _))))
set_option maxHeartbeats 8000000 in
set_option maxRecDepth 100000 in
theorem pick_2 (A : Option Addr) (c : Nat) (cells : List CellD) (n : Int) (S : Option Addr) (cs : Nat) (st : List Int) (funcs : Nat) (at_ : Nat) (P : Option Addr) (cp : Nat) (sp : List (Nat × List Int)) (w : World) (hn : I64 n) (hr : Row w w.heap.size 6 A cells.length (cellRow cells)) (hc : cells.length ≤ c) (hcl : 0 < cells.length ∧ cells.length ≤ 200)
    (hs : Row w w.heap.size 1 S st.length (st.map (Value.int .i64))) (hsc : st.length ≤ cs) (hs8 : st.length ≤ 8) (hsk : ∀ x ∈ st, 1 ≤ x ∧ x ≤ 6) (hf : funcs ≤ 2) (hat : at_ < 100) (hp : SpotsAt w w.heap.size P sp) (hpc : sp.length ≤ cp) (hpl : sp.length ≤ 100) (hpa : ∀ x ∈ sp, x.1 < 200 ∧ x.2.length ≤ 8) (h16 : n % 16 = 2) :
    Calls Tryd.prog 48 #[.slice A cells.length c, .int .i64 n, .slice S st.length cs, .int .i64 funcs, .int .i64 at_, .slice P sp.length cp] w (PickBack w cells st funcs at_ sp) := by
  have W16 := Lib.hid (fun W => show Calls Tryd.prog 35 #[.int .i64 n, .int .i64 16] W (fun e w' => e = .returned (.int .i64 2) ∧ W = w') from by have h := within12_any n 16 (by decide) (by decide) W; rw [h16] at h; exact h)
  have W4 := Lib.hid (fun (a : Int) (W : World) => show Calls Tryd.prog 35 #[.int .i64 a, .int .i64 4] W (fun e w' => ∃ q : Nat, q < 4 ∧ e = .returned (.int .i64 q) ∧ W = w') from within12_nat a 4 (by decide) (by decide) W)
  have W6 := Lib.hid (fun (a : Int) (W : World) => show Calls Tryd.prog 35 #[.int .i64 a, .int .i64 6] W (fun e w' => ∃ q : Nat, q < 6 ∧ e = .returned (.int .i64 q) ∧ W = w') from within12_nat a 6 (by decide) (by decide) W)
  have WL := Lib.hid (fun a W => within12_nat a cells.length hcl.1 (by omega) W)
  obtain ⟨K, hK⟩ : ∃ K, IntKind.i64.wrap (n.tdiv 32) = K := ⟨_, rfl⟩
  obtain ⟨hcl0, hcl1⟩ := hcl
  have hcI : (cells.length : Int) ≤ c := by omega
  have hcl2 : (cells.length : Int) ≤ 200 := by omega
  clear h16 hr hs hp hpa hsk
  have HQ6 := Lib.hid (show ∀ q : Nat, q < 6 → (q : Int) < 6 from fun q h => by omega)
  have HF0 := Lib.hid (show Five (w.alloc (.cells #[.int .i64 0, .int .i64 0, .int .i64 0, .int .i64 0, .int .i64 0] 67)) w.heap.size 0 0 0 0 0 from by constructor <;> go_simp)
  have HB0 := Lib.hid (show Below w.heap.size w (w.alloc (.cells #[.int .i64 0, .int .i64 0, .int .i64 0, .int .i64 0, .int .i64 0] 67)) from (Below.refl _ w).alloc (Nat.le_refl _) _)
  have hlt0 : w.heap.size < (w.alloc (.cells #[.int .i64 0, .int .i64 0, .int .i64 0, .int .i64 0, .int .i64 0] 67)).heap.size := by simp
  go_enter Tryd.func48, Tryd.ntmps48
  go_wp2_with (first | (go_at_call 35; first | ((with_reducible refine (W16.out _).mono ?_); rintro e _ ⟨rfl, rfl⟩) | ((with_reducible refine (WL.out _ _).mono ?_); rintro e _ ⟨ql, hql, rfl, rfl⟩)))
  refine bodyPost_ret (v := .agg #[.int .i64 0, .int .i64 0, .int .i64 3, .int .i64 ((ql : Int)), .int .i64 (0)]) ((fun (W : World) (h : Cells5 W w.heap.size 0 0 (3) ((ql : Int)) (0)) => (by obtain ⟨c0, c1, c2, c3, c4⟩ := h; simp [results, Tryd.results48, go_sem, c0, c1, c2, c3, c4] : (results _ _).run _ W = .ok _ W)) _ (by constructor <;> (go_simp; try exact IntWalk.i64_in _ (by omega)))) rfl (pickBack (po_load _ hql hcl1) (by repeat (first | (with_reducible exact Below.refl _ _) | (with_reducible exact HB0.out) | (with_reducible refine Below.setCell ?_ (by first | omega | (simp; done) | (simp; omega)) _) | (with_reducible refine Below.drew ?_) | (with_reducible refine below_dN _ ?_) | (with_reducible refine Below.alloc ?_ (by first | omega | (simp; done) | (simp; omega)) _))))
set_option maxHeartbeats 8000000 in
set_option maxRecDepth 100000 in
theorem pick_3 (A : Option Addr) (c : Nat) (cells : List CellD) (n : Int) (S : Option Addr) (cs : Nat) (st : List Int) (funcs : Nat) (at_ : Nat) (P : Option Addr) (cp : Nat) (sp : List (Nat × List Int)) (w : World) (hn : I64 n) (hr : Row w w.heap.size 6 A cells.length (cellRow cells)) (hc : cells.length ≤ c) (hcl : 0 < cells.length ∧ cells.length ≤ 200)
    (hs : Row w w.heap.size 1 S st.length (st.map (Value.int .i64))) (hsc : st.length ≤ cs) (hs8 : st.length ≤ 8) (hsk : ∀ x ∈ st, 1 ≤ x ∧ x ≤ 6) (hf : funcs ≤ 2) (hat : at_ < 100) (hp : SpotsAt w w.heap.size P sp) (hpc : sp.length ≤ cp) (hpl : sp.length ≤ 100) (hpa : ∀ x ∈ sp, x.1 < 200 ∧ x.2.length ≤ 8) (h16 : n % 16 = 3) :
    Calls Tryd.prog 48 #[.slice A cells.length c, .int .i64 n, .slice S st.length cs, .int .i64 funcs, .int .i64 at_, .slice P sp.length cp] w (PickBack w cells st funcs at_ sp) := by
  have W16 := Lib.hid (fun W => show Calls Tryd.prog 35 #[.int .i64 n, .int .i64 16] W (fun e w' => e = .returned (.int .i64 3) ∧ W = w') from by have h := within12_any n 16 (by decide) (by decide) W; rw [h16] at h; exact h)
  have W4 := Lib.hid (fun (a : Int) (W : World) => show Calls Tryd.prog 35 #[.int .i64 a, .int .i64 4] W (fun e w' => ∃ q : Nat, q < 4 ∧ e = .returned (.int .i64 q) ∧ W = w') from within12_nat a 4 (by decide) (by decide) W)
  have W6 := Lib.hid (fun (a : Int) (W : World) => show Calls Tryd.prog 35 #[.int .i64 a, .int .i64 6] W (fun e w' => ∃ q : Nat, q < 6 ∧ e = .returned (.int .i64 q) ∧ W = w') from within12_nat a 6 (by decide) (by decide) W)
  have WL := Lib.hid (fun a W => within12_nat a cells.length hcl.1 (by omega) W)
  obtain ⟨K, hK⟩ : ∃ K, IntKind.i64.wrap (n.tdiv 32) = K := ⟨_, rfl⟩
  obtain ⟨hcl0, hcl1⟩ := hcl
  have hcI : (cells.length : Int) ≤ c := by omega
  have hcl2 : (cells.length : Int) ≤ 200 := by omega
  clear h16 hr hs hp hpa hsk
  have HQ6 := Lib.hid (show ∀ q : Nat, q < 6 → (q : Int) < 6 from fun q h => by omega)
  have HF0 := Lib.hid (show Five (w.alloc (.cells #[.int .i64 0, .int .i64 0, .int .i64 0, .int .i64 0, .int .i64 0] 67)) w.heap.size 0 0 0 0 0 from by constructor <;> go_simp)
  have HB0 := Lib.hid (show Below w.heap.size w (w.alloc (.cells #[.int .i64 0, .int .i64 0, .int .i64 0, .int .i64 0, .int .i64 0] 67)) from (Below.refl _ w).alloc (Nat.le_refl _) _)
  have hlt0 : w.heap.size < (w.alloc (.cells #[.int .i64 0, .int .i64 0, .int .i64 0, .int .i64 0, .int .i64 0] 67)).heap.size := by simp
  go_enter Tryd.func48, Tryd.ntmps48
  go_wp2_with (first | (go_at_call 35; first | ((with_reducible refine (W16.out _).mono ?_); rintro e _ ⟨rfl, rfl⟩) | ((with_reducible refine (WL.out _ _).mono ?_); rintro e _ ⟨ql, hql, rfl, rfl⟩)))
  refine bodyPost_ret (v := .agg #[.int .i64 0, .int .i64 0, .int .i64 3, .int .i64 ((ql : Int)), .int .i64 (0)]) ((fun (W : World) (h : Cells5 W w.heap.size 0 0 (3) ((ql : Int)) (0)) => (by obtain ⟨c0, c1, c2, c3, c4⟩ := h; simp [results, Tryd.results48, go_sem, c0, c1, c2, c3, c4] : (results _ _).run _ W = .ok _ W)) _ (by constructor <;> (go_simp; try exact IntWalk.i64_in _ (by omega)))) rfl (pickBack (po_load _ hql hcl1) (by repeat (first | (with_reducible exact Below.refl _ _) | (with_reducible exact HB0.out) | (with_reducible refine Below.setCell ?_ (by first | omega | (simp; done) | (simp; omega)) _) | (with_reducible refine Below.drew ?_) | (with_reducible refine below_dN _ ?_) | (with_reducible refine Below.alloc ?_ (by first | omega | (simp; done) | (simp; omega)) _))))
set_option maxHeartbeats 8000000 in
set_option maxRecDepth 100000 in
theorem pick_4 (A : Option Addr) (c : Nat) (cells : List CellD) (n : Int) (S : Option Addr) (cs : Nat) (st : List Int) (funcs : Nat) (at_ : Nat) (P : Option Addr) (cp : Nat) (sp : List (Nat × List Int)) (w : World) (hn : I64 n) (hr : Row w w.heap.size 6 A cells.length (cellRow cells)) (hc : cells.length ≤ c) (hcl : 0 < cells.length ∧ cells.length ≤ 200)
    (hs : Row w w.heap.size 1 S st.length (st.map (Value.int .i64))) (hsc : st.length ≤ cs) (hs8 : st.length ≤ 8) (hsk : ∀ x ∈ st, 1 ≤ x ∧ x ≤ 6) (hf : funcs ≤ 2) (hat : at_ < 100) (hp : SpotsAt w w.heap.size P sp) (hpc : sp.length ≤ cp) (hpl : sp.length ≤ 100) (hpa : ∀ x ∈ sp, x.1 < 200 ∧ x.2.length ≤ 8) (h16 : n % 16 = 4) :
    Calls Tryd.prog 48 #[.slice A cells.length c, .int .i64 n, .slice S st.length cs, .int .i64 funcs, .int .i64 at_, .slice P sp.length cp] w (PickBack w cells st funcs at_ sp) := by
  have W16 := Lib.hid (fun W => show Calls Tryd.prog 35 #[.int .i64 n, .int .i64 16] W (fun e w' => e = .returned (.int .i64 4) ∧ W = w') from by have h := within12_any n 16 (by decide) (by decide) W; rw [h16] at h; exact h)
  have W4 := Lib.hid (fun (a : Int) (W : World) => show Calls Tryd.prog 35 #[.int .i64 a, .int .i64 4] W (fun e w' => ∃ q : Nat, q < 4 ∧ e = .returned (.int .i64 q) ∧ W = w') from within12_nat a 4 (by decide) (by decide) W)
  have W6 := Lib.hid (fun (a : Int) (W : World) => show Calls Tryd.prog 35 #[.int .i64 a, .int .i64 6] W (fun e w' => ∃ q : Nat, q < 6 ∧ e = .returned (.int .i64 q) ∧ W = w') from within12_nat a 6 (by decide) (by decide) W)
  have WL := Lib.hid (fun a W => within12_nat a cells.length hcl.1 (by omega) W)
  obtain ⟨K, hK⟩ : ∃ K, IntKind.i64.wrap (n.tdiv 32) = K := ⟨_, rfl⟩
  obtain ⟨hcl0, hcl1⟩ := hcl
  have hcI : (cells.length : Int) ≤ c := by omega
  have hcl2 : (cells.length : Int) ≤ 200 := by omega
  clear h16 hp hpa hsk
  have HQ6 := Lib.hid (show ∀ q : Nat, q < 6 → (q : Int) < 6 from fun q h => by omega)
  have HF0 := Lib.hid (show Five (w.alloc (.cells #[.int .i64 0, .int .i64 0, .int .i64 0, .int .i64 0, .int .i64 0] 67)) w.heap.size 0 0 0 0 0 from by constructor <;> go_simp)
  have HB0 := Lib.hid (show Below w.heap.size w (w.alloc (.cells #[.int .i64 0, .int .i64 0, .int .i64 0, .int .i64 0, .int .i64 0] 67)) from (Below.refl _ w).alloc (Nat.le_refl _) _)
  have hlt0 : w.heap.size < (w.alloc (.cells #[.int .i64 0, .int .i64 0, .int .i64 0, .int .i64 0, .int .i64 0] 67)).heap.size := by simp
  have HR := Lib.hid hr
  obtain ⟨cb, co, hA, hcb, -⟩ := hr.2 hcl0
  subst hA
  have TOP := Lib.hid (fun k u (hu : Below w.heap.size w u) => top12_any S cs st k u ((hs.below hu).more hu.size) hsc (by omega))
  have hslI : (st.length : Int) ≤ 8 := by omega
  have hsc' : (st.length : Int) ≤ cs := by omega
  clear hr hs
  go_enter Tryd.func48, Tryd.ntmps48
  go_wp2_with (first | (go_at_call 35; first | ((with_reducible refine (W16.out _).mono ?_); rintro e _ ⟨rfl, rfl⟩)))
  go_loopw [15] (fun i wr => PRel w cells.length i wr) (fun i _ => cells.length - (intOf i).toNat)
  case atStart => exact ⟨0, rfl, Nat.zero_le _, HB0.out, HF0.out, hlt0⟩
  case round =>
    obtain ⟨j, rfl, hj, hb, hfw, hltw⟩ := hrel
    have HB := Lib.hid hb
    have HFW := Lib.hid hfw
    obtain ⟨c0, c1, c2, c3, c4, f0, f1, f2, f3, f4⟩ := hfw
    by_cases hjl : j < cells.length
    · have hjl' : (j : Int) < cells.length := by omega
      by_cases hst : 0 < st.length
      · have hst' : (0 : Int) < st.length := by omega
        obtain ⟨q0, hq0, wq⟩ := within12_at (wrap64 (K + (j : Int))) cells.length (by omega) (by omega)
        have WQ := Lib.hid wq
        obtain ⟨x, hx, e1, e4, e5⟩ := cell_row HR.out hb q0 hq0
        have HX := Lib.hid hx
        have hq0I : (q0 : Int) < cells.length := by omega
        clear wq hx hb e4 e5
        cases htb : topB st x.kind
        · have TOQ := TOP.out x.kind
          rw [htb] at TOQ
          have HTO := Lib.hid TOQ
          have HTB := Lib.hid htb
          clear TOQ htb
          go_wp2_with (first | (go_at_call 35; first | ((with_reducible refine (W16.out _).mono ?_); rintro e _ ⟨rfl, rfl⟩) | ((with_reducible refine (WQ.out _ (by first | rfl | simp) _).mono ?_); rintro e _ ⟨rfl, rfl⟩)) | (go_at_call 67; refine (HTO.out _ (by repeat (first | (with_reducible exact Below.refl _ _) | (with_reducible exact HB.out) | (with_reducible refine Below.setCell ?_ (by first | omega | (simp; done) | (simp; omega)) _) | (with_reducible refine Below.drew ?_) | (with_reducible refine below_dN _ ?_) | (with_reducible refine Below.alloc ?_ (by first | omega | (simp; done) | (simp; omega)) _)))).mono ?_; rintro e wt ⟨rfl, hbt⟩; obtain ⟨c0, c1, c2, c3, c4, f0, f1, f2, f3, f4⟩ := five_below HFW.out hbt hltw; have HFT := Lib.hid (five_below HFW.out hbt hltw); have hltt : w.heap.size < wt.heap.size := Nat.lt_of_lt_of_le hltw hbt.size; have HBT := Lib.hid (below3 HB.out (Nat.le_of_lt hltw) hbt); clear hbt))
          go_roundw
          case rel => exact ⟨j + 1, rfl, by omega, HBT.out, HFT.out, hltt⟩
          case measure => simp [intOf]; omega
        · have TOQ := TOP.out x.kind
          rw [htb] at TOQ
          have HTO := Lib.hid TOQ
          have HTB := Lib.hid htb
          clear TOQ htb
          go_wp2_with (first | (go_at_call 35; first | ((with_reducible refine (W16.out _).mono ?_); rintro e _ ⟨rfl, rfl⟩) | ((with_reducible refine (WQ.out _ (by first | rfl | simp) _).mono ?_); rintro e _ ⟨rfl, rfl⟩)) | (go_at_call 67; refine (HTO.out _ (by repeat (first | (with_reducible exact Below.refl _ _) | (with_reducible exact HB.out) | (with_reducible refine Below.setCell ?_ (by first | omega | (simp; done) | (simp; omega)) _) | (with_reducible refine Below.drew ?_) | (with_reducible refine below_dN _ ?_) | (with_reducible refine Below.alloc ?_ (by first | omega | (simp; done) | (simp; omega)) _)))).mono ?_; rintro e wt ⟨rfl, hbt⟩; obtain ⟨c0, c1, c2, c3, c4, f0, f1, f2, f3, f4⟩ := five_below HFW.out hbt hltw; have HFT := Lib.hid (five_below HFW.out hbt hltw); have hltt : w.heap.size < wt.heap.size := Nat.lt_of_lt_of_le hltw hbt.size; have HBT := Lib.hid (below3 HB.out (Nat.le_of_lt hltw) hbt); clear hbt))
          refine bodyPost_ret (v := .agg #[.int .i64 0, .int .i64 0, .int .i64 4, .int .i64 ((q0 : Int)), .int .i64 (0)]) ((fun (W : World) (h : Cells5 W w.heap.size 0 0 (4) ((q0 : Int)) (0)) => (by obtain ⟨c0, c1, c2, c3, c4⟩ := h; simp [results, Tryd.results48, go_sem, c0, c1, c2, c3, c4] : (results _ _).run _ W = .ok _ W)) _ (by constructor <;> (go_simp; try exact IntWalk.i64_in _ (by omega)))) rfl (pickBack (po_store _ x HX.out hcl1 HTB.out) (by repeat (first | (with_reducible exact Below.refl _ _) | (with_reducible exact HBT.out) | (with_reducible refine Below.setCell ?_ (by first | omega | (simp; done) | (simp; omega)) _) | (with_reducible refine Below.drew ?_) | (with_reducible refine below_dN _ ?_) | (with_reducible refine Below.alloc ?_ (by first | omega | (simp; done) | (simp; omega)) _))))
      · have hst' : ¬ (0 : Int) < st.length := by omega
        clear hb
        go_wp2_with (first | (go_at_call 35; first | ((with_reducible refine (W16.out _).mono ?_); rintro e _ ⟨rfl, rfl⟩) | ((with_reducible refine (W4.out _ _).mono ?_); rintro e _ ⟨q4, hq4, rfl, rfl⟩)))
        refine bodyPost_ret (v := .agg #[.int .i64 0, .int .i64 0, .int .i64 24, .int .i64 ((q4 : Int)), .int .i64 (0)]) ((fun (W : World) (h : Cells5 W w.heap.size 0 0 (24) ((q4 : Int)) (0)) => (by obtain ⟨c0, c1, c2, c3, c4⟩ := h; simp [results, Tryd.results48, go_sem, c0, c1, c2, c3, c4] : (results _ _).run _ W = .ok _ W)) _ (by constructor <;> (go_simp; try exact IntWalk.i64_in _ (by omega)))) rfl (pickBack (po_in _ hq4) (by repeat (first | (with_reducible exact Below.refl _ _) | (with_reducible exact HB.out) | (with_reducible refine Below.setCell ?_ (by first | omega | (simp; done) | (simp; omega)) _) | (with_reducible refine Below.drew ?_) | (with_reducible refine below_dN _ ?_) | (with_reducible refine Below.alloc ?_ (by first | omega | (simp; done) | (simp; omega)) _))))
    · have hje : j = cells.length := by omega
      subst hje
      clear hb
      go_wp2_with (first | (go_at_call 35; first | ((with_reducible refine (W16.out _).mono ?_); rintro e _ ⟨rfl, rfl⟩) | ((with_reducible refine (W4.out _ _).mono ?_); rintro e _ ⟨q4, hq4, rfl, rfl⟩)))
      refine bodyPost_ret (v := .agg #[.int .i64 0, .int .i64 0, .int .i64 24, .int .i64 ((q4 : Int)), .int .i64 (0)]) ((fun (W : World) (h : Cells5 W w.heap.size 0 0 (24) ((q4 : Int)) (0)) => (by obtain ⟨c0, c1, c2, c3, c4⟩ := h; simp [results, Tryd.results48, go_sem, c0, c1, c2, c3, c4] : (results _ _).run _ W = .ok _ W)) _ (by constructor <;> (go_simp; try exact IntWalk.i64_in _ (by omega)))) rfl (pickBack (po_in _ hq4) (by repeat (first | (with_reducible exact Below.refl _ _) | (with_reducible exact HB.out) | (with_reducible refine Below.setCell ?_ (by first | omega | (simp; done) | (simp; omega)) _) | (with_reducible refine Below.drew ?_) | (with_reducible refine below_dN _ ?_) | (with_reducible refine Below.alloc ?_ (by first | omega | (simp; done) | (simp; omega)) _))))
set_option maxHeartbeats 8000000 in
set_option maxRecDepth 100000 in
theorem pick_5 (A : Option Addr) (c : Nat) (cells : List CellD) (n : Int) (S : Option Addr) (cs : Nat) (st : List Int) (funcs : Nat) (at_ : Nat) (P : Option Addr) (cp : Nat) (sp : List (Nat × List Int)) (w : World) (hn : I64 n) (hr : Row w w.heap.size 6 A cells.length (cellRow cells)) (hc : cells.length ≤ c) (hcl : 0 < cells.length ∧ cells.length ≤ 200)
    (hs : Row w w.heap.size 1 S st.length (st.map (Value.int .i64))) (hsc : st.length ≤ cs) (hs8 : st.length ≤ 8) (hsk : ∀ x ∈ st, 1 ≤ x ∧ x ≤ 6) (hf : funcs ≤ 2) (hat : at_ < 100) (hp : SpotsAt w w.heap.size P sp) (hpc : sp.length ≤ cp) (hpl : sp.length ≤ 100) (hpa : ∀ x ∈ sp, x.1 < 200 ∧ x.2.length ≤ 8) (h16 : n % 16 = 5) :
    Calls Tryd.prog 48 #[.slice A cells.length c, .int .i64 n, .slice S st.length cs, .int .i64 funcs, .int .i64 at_, .slice P sp.length cp] w (PickBack w cells st funcs at_ sp) := by
  have W16 := Lib.hid (fun W => show Calls Tryd.prog 35 #[.int .i64 n, .int .i64 16] W (fun e w' => e = .returned (.int .i64 5) ∧ W = w') from by have h := within12_any n 16 (by decide) (by decide) W; rw [h16] at h; exact h)
  have W4 := Lib.hid (fun (a : Int) (W : World) => show Calls Tryd.prog 35 #[.int .i64 a, .int .i64 4] W (fun e w' => ∃ q : Nat, q < 4 ∧ e = .returned (.int .i64 q) ∧ W = w') from within12_nat a 4 (by decide) (by decide) W)
  have W6 := Lib.hid (fun (a : Int) (W : World) => show Calls Tryd.prog 35 #[.int .i64 a, .int .i64 6] W (fun e w' => ∃ q : Nat, q < 6 ∧ e = .returned (.int .i64 q) ∧ W = w') from within12_nat a 6 (by decide) (by decide) W)
  have WL := Lib.hid (fun a W => within12_nat a cells.length hcl.1 (by omega) W)
  obtain ⟨K, hK⟩ : ∃ K, IntKind.i64.wrap (n.tdiv 32) = K := ⟨_, rfl⟩
  obtain ⟨hcl0, hcl1⟩ := hcl
  have hcI : (cells.length : Int) ≤ c := by omega
  have hcl2 : (cells.length : Int) ≤ 200 := by omega
  clear h16 hp hpa hsk
  have HQ6 := Lib.hid (show ∀ q : Nat, q < 6 → (q : Int) < 6 from fun q h => by omega)
  have HF0 := Lib.hid (show Five (w.alloc (.cells #[.int .i64 0, .int .i64 0, .int .i64 0, .int .i64 0, .int .i64 0] 67)) w.heap.size 0 0 0 0 0 from by constructor <;> go_simp)
  have HB0 := Lib.hid (show Below w.heap.size w (w.alloc (.cells #[.int .i64 0, .int .i64 0, .int .i64 0, .int .i64 0, .int .i64 0] 67)) from (Below.refl _ w).alloc (Nat.le_refl _) _)
  have hlt0 : w.heap.size < (w.alloc (.cells #[.int .i64 0, .int .i64 0, .int .i64 0, .int .i64 0, .int .i64 0] 67)).heap.size := by simp
  have HR := Lib.hid hr
  obtain ⟨cb, co, hA, hcb, -⟩ := hr.2 hcl0
  subst hA
  have TOP := Lib.hid (fun k u (hu : Below w.heap.size w u) => top12_any S cs st k u ((hs.below hu).more hu.size) hsc (by omega))
  have hslI : (st.length : Int) ≤ 8 := by omega
  have hsc' : (st.length : Int) ≤ cs := by omega
  clear hr hs
  go_enter Tryd.func48, Tryd.ntmps48
  go_wp2_with (first | (go_at_call 35; first | ((with_reducible refine (W16.out _).mono ?_); rintro e _ ⟨rfl, rfl⟩)))
  go_loopw [15] (fun i wr => PRel w cells.length i wr) (fun i _ => cells.length - (intOf i).toNat)
  case atStart => exact ⟨0, rfl, Nat.zero_le _, HB0.out, HF0.out, hlt0⟩
  case round =>
    obtain ⟨j, rfl, hj, hb, hfw, hltw⟩ := hrel
    have HB := Lib.hid hb
    have HFW := Lib.hid hfw
    obtain ⟨c0, c1, c2, c3, c4, f0, f1, f2, f3, f4⟩ := hfw
    by_cases hjl : j < cells.length
    · have hjl' : (j : Int) < cells.length := by omega
      by_cases hst : 0 < st.length
      · have hst' : (0 : Int) < st.length := by omega
        obtain ⟨q0, hq0, wq⟩ := within12_at (wrap64 (K + (j : Int))) cells.length (by omega) (by omega)
        have WQ := Lib.hid wq
        obtain ⟨x, hx, e1, e4, e5⟩ := cell_row HR.out hb q0 hq0
        have HX := Lib.hid hx
        have hq0I : (q0 : Int) < cells.length := by omega
        clear wq hx hb e4 e5
        cases htb : topB st x.kind
        · have TOQ := TOP.out x.kind
          rw [htb] at TOQ
          have HTO := Lib.hid TOQ
          have HTB := Lib.hid htb
          clear TOQ htb
          go_wp2_with (first | (go_at_call 35; first | ((with_reducible refine (W16.out _).mono ?_); rintro e _ ⟨rfl, rfl⟩) | ((with_reducible refine (WQ.out _ (by first | rfl | simp) _).mono ?_); rintro e _ ⟨rfl, rfl⟩)) | (go_at_call 67; refine (HTO.out _ (by repeat (first | (with_reducible exact Below.refl _ _) | (with_reducible exact HB.out) | (with_reducible refine Below.setCell ?_ (by first | omega | (simp; done) | (simp; omega)) _) | (with_reducible refine Below.drew ?_) | (with_reducible refine below_dN _ ?_) | (with_reducible refine Below.alloc ?_ (by first | omega | (simp; done) | (simp; omega)) _)))).mono ?_; rintro e wt ⟨rfl, hbt⟩; obtain ⟨c0, c1, c2, c3, c4, f0, f1, f2, f3, f4⟩ := five_below HFW.out hbt hltw; have HFT := Lib.hid (five_below HFW.out hbt hltw); have hltt : w.heap.size < wt.heap.size := Nat.lt_of_lt_of_le hltw hbt.size; have HBT := Lib.hid (below3 HB.out (Nat.le_of_lt hltw) hbt); clear hbt))
          go_roundw
          case rel => exact ⟨j + 1, rfl, by omega, HBT.out, HFT.out, hltt⟩
          case measure => simp [intOf]; omega
        · have TOQ := TOP.out x.kind
          rw [htb] at TOQ
          have HTO := Lib.hid TOQ
          have HTB := Lib.hid htb
          clear TOQ htb
          go_wp2_with (first | (go_at_call 35; first | ((with_reducible refine (W16.out _).mono ?_); rintro e _ ⟨rfl, rfl⟩) | ((with_reducible refine (WQ.out _ (by first | rfl | simp) _).mono ?_); rintro e _ ⟨rfl, rfl⟩)) | (go_at_call 67; refine (HTO.out _ (by repeat (first | (with_reducible exact Below.refl _ _) | (with_reducible exact HB.out) | (with_reducible refine Below.setCell ?_ (by first | omega | (simp; done) | (simp; omega)) _) | (with_reducible refine Below.drew ?_) | (with_reducible refine below_dN _ ?_) | (with_reducible refine Below.alloc ?_ (by first | omega | (simp; done) | (simp; omega)) _)))).mono ?_; rintro e wt ⟨rfl, hbt⟩; obtain ⟨c0, c1, c2, c3, c4, f0, f1, f2, f3, f4⟩ := five_below HFW.out hbt hltw; have HFT := Lib.hid (five_below HFW.out hbt hltw); have hltt : w.heap.size < wt.heap.size := Nat.lt_of_lt_of_le hltw hbt.size; have HBT := Lib.hid (below3 HB.out (Nat.le_of_lt hltw) hbt); clear hbt))
          refine bodyPost_ret (v := .agg #[.int .i64 0, .int .i64 0, .int .i64 4, .int .i64 ((q0 : Int)), .int .i64 (0)]) ((fun (W : World) (h : Cells5 W w.heap.size 0 0 (4) ((q0 : Int)) (0)) => (by obtain ⟨c0, c1, c2, c3, c4⟩ := h; simp [results, Tryd.results48, go_sem, c0, c1, c2, c3, c4] : (results _ _).run _ W = .ok _ W)) _ (by constructor <;> (go_simp; try exact IntWalk.i64_in _ (by omega)))) rfl (pickBack (po_store _ x HX.out hcl1 HTB.out) (by repeat (first | (with_reducible exact Below.refl _ _) | (with_reducible exact HBT.out) | (with_reducible refine Below.setCell ?_ (by first | omega | (simp; done) | (simp; omega)) _) | (with_reducible refine Below.drew ?_) | (with_reducible refine below_dN _ ?_) | (with_reducible refine Below.alloc ?_ (by first | omega | (simp; done) | (simp; omega)) _))))
      · have hst' : ¬ (0 : Int) < st.length := by omega
        clear hb
        go_wp2_with (first | (go_at_call 35; first | ((with_reducible refine (W16.out _).mono ?_); rintro e _ ⟨rfl, rfl⟩) | ((with_reducible refine (W4.out _ _).mono ?_); rintro e _ ⟨q4, hq4, rfl, rfl⟩)))
        refine bodyPost_ret (v := .agg #[.int .i64 0, .int .i64 0, .int .i64 24, .int .i64 ((q4 : Int)), .int .i64 (0)]) ((fun (W : World) (h : Cells5 W w.heap.size 0 0 (24) ((q4 : Int)) (0)) => (by obtain ⟨c0, c1, c2, c3, c4⟩ := h; simp [results, Tryd.results48, go_sem, c0, c1, c2, c3, c4] : (results _ _).run _ W = .ok _ W)) _ (by constructor <;> (go_simp; try exact IntWalk.i64_in _ (by omega)))) rfl (pickBack (po_in _ hq4) (by repeat (first | (with_reducible exact Below.refl _ _) | (with_reducible exact HB.out) | (with_reducible refine Below.setCell ?_ (by first | omega | (simp; done) | (simp; omega)) _) | (with_reducible refine Below.drew ?_) | (with_reducible refine below_dN _ ?_) | (with_reducible refine Below.alloc ?_ (by first | omega | (simp; done) | (simp; omega)) _))))
    · have hje : j = cells.length := by omega
      subst hje
      clear hb
      go_wp2_with (first | (go_at_call 35; first | ((with_reducible refine (W16.out _).mono ?_); rintro e _ ⟨rfl, rfl⟩) | ((with_reducible refine (W4.out _ _).mono ?_); rintro e _ ⟨q4, hq4, rfl, rfl⟩)))
      refine bodyPost_ret (v := .agg #[.int .i64 0, .int .i64 0, .int .i64 24, .int .i64 ((q4 : Int)), .int .i64 (0)]) ((fun (W : World) (h : Cells5 W w.heap.size 0 0 (24) ((q4 : Int)) (0)) => (by obtain ⟨c0, c1, c2, c3, c4⟩ := h; simp [results, Tryd.results48, go_sem, c0, c1, c2, c3, c4] : (results _ _).run _ W = .ok _ W)) _ (by constructor <;> (go_simp; try exact IntWalk.i64_in _ (by omega)))) rfl (pickBack (po_in _ hq4) (by repeat (first | (with_reducible exact Below.refl _ _) | (with_reducible exact HB.out) | (with_reducible refine Below.setCell ?_ (by first | omega | (simp; done) | (simp; omega)) _) | (with_reducible refine Below.drew ?_) | (with_reducible refine below_dN _ ?_) | (with_reducible refine Below.alloc ?_ (by first | omega | (simp; done) | (simp; omega)) _))))
set_option maxHeartbeats 8000000 in
set_option maxRecDepth 100000 in
theorem pick_9 (A : Option Addr) (c : Nat) (cells : List CellD) (n : Int) (S : Option Addr) (cs : Nat) (st : List Int) (funcs : Nat) (at_ : Nat) (P : Option Addr) (cp : Nat) (sp : List (Nat × List Int)) (w : World) (hn : I64 n) (hr : Row w w.heap.size 6 A cells.length (cellRow cells)) (hc : cells.length ≤ c) (hcl : 0 < cells.length ∧ cells.length ≤ 200)
    (hs : Row w w.heap.size 1 S st.length (st.map (Value.int .i64))) (hsc : st.length ≤ cs) (hs8 : st.length ≤ 8) (hsk : ∀ x ∈ st, 1 ≤ x ∧ x ≤ 6) (hf : funcs ≤ 2) (hat : at_ < 100) (hp : SpotsAt w w.heap.size P sp) (hpc : sp.length ≤ cp) (hpl : sp.length ≤ 100) (hpa : ∀ x ∈ sp, x.1 < 200 ∧ x.2.length ≤ 8) (h16 : n % 16 = 9) :
    Calls Tryd.prog 48 #[.slice A cells.length c, .int .i64 n, .slice S st.length cs, .int .i64 funcs, .int .i64 at_, .slice P sp.length cp] w (PickBack w cells st funcs at_ sp) := by
  have W16 := Lib.hid (fun W => show Calls Tryd.prog 35 #[.int .i64 n, .int .i64 16] W (fun e w' => e = .returned (.int .i64 9) ∧ W = w') from by have h := within12_any n 16 (by decide) (by decide) W; rw [h16] at h; exact h)
  have W4 := Lib.hid (fun (a : Int) (W : World) => show Calls Tryd.prog 35 #[.int .i64 a, .int .i64 4] W (fun e w' => ∃ q : Nat, q < 4 ∧ e = .returned (.int .i64 q) ∧ W = w') from within12_nat a 4 (by decide) (by decide) W)
  have W6 := Lib.hid (fun (a : Int) (W : World) => show Calls Tryd.prog 35 #[.int .i64 a, .int .i64 6] W (fun e w' => ∃ q : Nat, q < 6 ∧ e = .returned (.int .i64 q) ∧ W = w') from within12_nat a 6 (by decide) (by decide) W)
  have WL := Lib.hid (fun a W => within12_nat a cells.length hcl.1 (by omega) W)
  obtain ⟨K, hK⟩ : ∃ K, IntKind.i64.wrap (n.tdiv 32) = K := ⟨_, rfl⟩
  obtain ⟨hcl0, hcl1⟩ := hcl
  have hcI : (cells.length : Int) ≤ c := by omega
  have hcl2 : (cells.length : Int) ≤ 200 := by omega
  clear h16 hr hp hpa hsk
  have HQ6 := Lib.hid (show ∀ q : Nat, q < 6 → (q : Int) < 6 from fun q h => by omega)
  have HF0 := Lib.hid (show Five (w.alloc (.cells #[.int .i64 0, .int .i64 0, .int .i64 0, .int .i64 0, .int .i64 0] 67)) w.heap.size 0 0 0 0 0 from by constructor <;> go_simp)
  have HB0 := Lib.hid (show Below w.heap.size w (w.alloc (.cells #[.int .i64 0, .int .i64 0, .int .i64 0, .int .i64 0, .int .i64 0] 67)) from (Below.refl _ w).alloc (Nat.le_refl _) _)
  have hlt0 : w.heap.size < (w.alloc (.cells #[.int .i64 0, .int .i64 0, .int .i64 0, .int .i64 0, .int .i64 0] 67)).heap.size := by simp
  have TOQ := fun u (hu : Below w.heap.size w u) => (top12_any S cs st 5 u ((hs.below hu).more hu.size) hsc (by omega) : Calls Tryd.prog 67 #[.slice S st.length cs, .int .i64 5] u fun e w' => e = .returned (.bool (topB st 5)) ∧ Below u.heap.size u w')
  cases htb : topB st 5
  · rw [htb] at TOQ
    have HTO := Lib.hid TOQ
    clear TOQ htb
    go_enter Tryd.func48, Tryd.ntmps48
    go_wp2_with (first | (go_at_call 35; first | ((with_reducible refine (W16.out _).mono ?_); rintro e _ ⟨rfl, rfl⟩) | ((with_reducible refine (W4.out _ _).mono ?_); rintro e _ ⟨q4, hq4, rfl, rfl⟩)) | (go_at_call 67; refine (HTO.out _ (by repeat (first | (with_reducible exact Below.refl _ _) | (with_reducible exact HB0.out) | (with_reducible refine Below.setCell ?_ (by first | omega | (simp; done) | (simp; omega)) _) | (with_reducible refine Below.drew ?_) | (with_reducible refine below_dN _ ?_) | (with_reducible refine Below.alloc ?_ (by first | omega | (simp; done) | (simp; omega)) _)))).mono ?_; rintro e wt ⟨rfl, hbt⟩; obtain ⟨c0, c1, c2, c3, c4, f0, f1, f2, f3, f4⟩ := five_below HF0.out hbt hlt0; have HFT := Lib.hid (five_below HF0.out hbt hlt0); have hltt : w.heap.size < wt.heap.size := Nat.lt_of_lt_of_le hlt0 hbt.size; have HBT := Lib.hid (below3 HB0.out (Nat.le_of_lt hlt0) hbt); clear hbt))
    refine bodyPost_ret (v := .agg #[.int .i64 0, .int .i64 0, .int .i64 24, .int .i64 ((q4 : Int)), .int .i64 (0)]) ((fun (W : World) (h : Cells5 W w.heap.size 0 0 (24) ((q4 : Int)) (0)) => (by obtain ⟨c0, c1, c2, c3, c4⟩ := h; simp [results, Tryd.results48, go_sem, c0, c1, c2, c3, c4] : (results _ _).run _ W = .ok _ W)) _ (by constructor <;> (go_simp; try exact IntWalk.i64_in _ (by omega)))) rfl (pickBack (po_in _ hq4) (by repeat (first | (with_reducible exact Below.refl _ _) | (with_reducible exact HBT.out) | (with_reducible refine Below.setCell ?_ (by first | omega | (simp; done) | (simp; omega)) _) | (with_reducible refine Below.drew ?_) | (with_reducible refine below_dN _ ?_) | (with_reducible refine Below.alloc ?_ (by first | omega | (simp; done) | (simp; omega)) _))))
  · rw [htb] at TOQ
    have HTO := Lib.hid TOQ
    have HTB := Lib.hid htb
    clear TOQ htb
    go_enter Tryd.func48, Tryd.ntmps48
    go_wp2_with (first | (go_at_call 35; first | ((with_reducible refine (W16.out _).mono ?_); rintro e _ ⟨rfl, rfl⟩) | ((with_reducible refine (W4.out _ _).mono ?_); rintro e _ ⟨q4, hq4, rfl, rfl⟩)) | (go_at_call 67; refine (HTO.out _ (by repeat (first | (with_reducible exact Below.refl _ _) | (with_reducible exact HB0.out) | (with_reducible refine Below.setCell ?_ (by first | omega | (simp; done) | (simp; omega)) _) | (with_reducible refine Below.drew ?_) | (with_reducible refine below_dN _ ?_) | (with_reducible refine Below.alloc ?_ (by first | omega | (simp; done) | (simp; omega)) _)))).mono ?_; rintro e wt ⟨rfl, hbt⟩; obtain ⟨c0, c1, c2, c3, c4, f0, f1, f2, f3, f4⟩ := five_below HF0.out hbt hlt0; have HFT := Lib.hid (five_below HF0.out hbt hlt0); have hltt : w.heap.size < wt.heap.size := Nat.lt_of_lt_of_le hlt0 hbt.size; have HBT := Lib.hid (below3 HB0.out (Nat.le_of_lt hlt0) hbt); clear hbt))
    refine bodyPost_ret (v := .agg #[.int .i64 0, .int .i64 0, .int .i64 25, .int .i64 ((q4 : Int)), .int .i64 (0)]) ((fun (W : World) (h : Cells5 W w.heap.size 0 0 (25) ((q4 : Int)) (0)) => (by obtain ⟨c0, c1, c2, c3, c4⟩ := h; simp [results, Tryd.results48, go_sem, c0, c1, c2, c3, c4] : (results _ _).run _ W = .ok _ W)) _ (by constructor <;> (go_simp; try exact IntWalk.i64_in _ (by omega)))) rfl (pickBack (po_out _ hq4 HTB.out) (by repeat (first | (with_reducible exact Below.refl _ _) | (with_reducible exact HBT.out) | (with_reducible refine Below.setCell ?_ (by first | omega | (simp; done) | (simp; omega)) _) | (with_reducible refine Below.drew ?_) | (with_reducible refine below_dN _ ?_) | (with_reducible refine Below.alloc ?_ (by first | omega | (simp; done) | (simp; omega)) _))))
set_option maxHeartbeats 8000000 in
set_option maxRecDepth 100000 in
theorem pick_10 (A : Option Addr) (c : Nat) (cells : List CellD) (n : Int) (S : Option Addr) (cs : Nat) (st : List Int) (funcs : Nat) (at_ : Nat) (P : Option Addr) (cp : Nat) (sp : List (Nat × List Int)) (w : World) (hn : I64 n) (hr : Row w w.heap.size 6 A cells.length (cellRow cells)) (hc : cells.length ≤ c) (hcl : 0 < cells.length ∧ cells.length ≤ 200)
    (hs : Row w w.heap.size 1 S st.length (st.map (Value.int .i64))) (hsc : st.length ≤ cs) (hs8 : st.length ≤ 8) (hsk : ∀ x ∈ st, 1 ≤ x ∧ x ≤ 6) (hf : funcs ≤ 2) (hat : at_ < 100) (hp : SpotsAt w w.heap.size P sp) (hpc : sp.length ≤ cp) (hpl : sp.length ≤ 100) (hpa : ∀ x ∈ sp, x.1 < 200 ∧ x.2.length ≤ 8) (h16 : n % 16 = 10) :
    Calls Tryd.prog 48 #[.slice A cells.length c, .int .i64 n, .slice S st.length cs, .int .i64 funcs, .int .i64 at_, .slice P sp.length cp] w (PickBack w cells st funcs at_ sp) := by
  have W16 := Lib.hid (fun W => show Calls Tryd.prog 35 #[.int .i64 n, .int .i64 16] W (fun e w' => e = .returned (.int .i64 10) ∧ W = w') from by have h := within12_any n 16 (by decide) (by decide) W; rw [h16] at h; exact h)
  have W4 := Lib.hid (fun (a : Int) (W : World) => show Calls Tryd.prog 35 #[.int .i64 a, .int .i64 4] W (fun e w' => ∃ q : Nat, q < 4 ∧ e = .returned (.int .i64 q) ∧ W = w') from within12_nat a 4 (by decide) (by decide) W)
  have W6 := Lib.hid (fun (a : Int) (W : World) => show Calls Tryd.prog 35 #[.int .i64 a, .int .i64 6] W (fun e w' => ∃ q : Nat, q < 6 ∧ e = .returned (.int .i64 q) ∧ W = w') from within12_nat a 6 (by decide) (by decide) W)
  have WL := Lib.hid (fun a W => within12_nat a cells.length hcl.1 (by omega) W)
  obtain ⟨K, hK⟩ : ∃ K, IntKind.i64.wrap (n.tdiv 32) = K := ⟨_, rfl⟩
  obtain ⟨hcl0, hcl1⟩ := hcl
  have hcI : (cells.length : Int) ≤ c := by omega
  have hcl2 : (cells.length : Int) ≤ 200 := by omega
  clear h16 hr hs hp hpa hsk
  have HQ6 := Lib.hid (show ∀ q : Nat, q < 6 → (q : Int) < 6 from fun q h => by omega)
  have HF0 := Lib.hid (show Five (w.alloc (.cells #[.int .i64 0, .int .i64 0, .int .i64 0, .int .i64 0, .int .i64 0] 67)) w.heap.size 0 0 0 0 0 from by constructor <;> go_simp)
  have HB0 := Lib.hid (show Below w.heap.size w (w.alloc (.cells #[.int .i64 0, .int .i64 0, .int .i64 0, .int .i64 0, .int .i64 0] 67)) from (Below.refl _ w).alloc (Nat.le_refl _) _)
  have hlt0 : w.heap.size < (w.alloc (.cells #[.int .i64 0, .int .i64 0, .int .i64 0, .int .i64 0, .int .i64 0] 67)).heap.size := by simp
  go_enter Tryd.func48, Tryd.ntmps48
  go_wp2_with (first | (go_at_call 35; first | ((with_reducible refine (W16.out _).mono ?_); rintro e _ ⟨rfl, rfl⟩) | ((with_reducible refine (W4.out _ _).mono ?_); rintro e _ ⟨q4, hq4, rfl, rfl⟩)))
  refine bodyPost_ret (v := .agg #[.int .i64 0, .int .i64 0, .int .i64 24, .int .i64 ((q4 : Int)), .int .i64 (0)]) ((fun (W : World) (h : Cells5 W w.heap.size 0 0 (24) ((q4 : Int)) (0)) => (by obtain ⟨c0, c1, c2, c3, c4⟩ := h; simp [results, Tryd.results48, go_sem, c0, c1, c2, c3, c4] : (results _ _).run _ W = .ok _ W)) _ (by constructor <;> (go_simp; try exact IntWalk.i64_in _ (by omega)))) rfl (pickBack (po_in _ hq4) (by repeat (first | (with_reducible exact Below.refl _ _) | (with_reducible exact HB0.out) | (with_reducible refine Below.setCell ?_ (by first | omega | (simp; done) | (simp; omega)) _) | (with_reducible refine Below.drew ?_) | (with_reducible refine below_dN _ ?_) | (with_reducible refine Below.alloc ?_ (by first | omega | (simp; done) | (simp; omega)) _))))
set_option maxHeartbeats 8000000 in
set_option maxRecDepth 100000 in
theorem pick_11 (A : Option Addr) (c : Nat) (cells : List CellD) (n : Int) (S : Option Addr) (cs : Nat) (st : List Int) (funcs : Nat) (at_ : Nat) (P : Option Addr) (cp : Nat) (sp : List (Nat × List Int)) (w : World) (hn : I64 n) (hr : Row w w.heap.size 6 A cells.length (cellRow cells)) (hc : cells.length ≤ c) (hcl : 0 < cells.length ∧ cells.length ≤ 200)
    (hs : Row w w.heap.size 1 S st.length (st.map (Value.int .i64))) (hsc : st.length ≤ cs) (hs8 : st.length ≤ 8) (hsk : ∀ x ∈ st, 1 ≤ x ∧ x ≤ 6) (hf : funcs ≤ 2) (hat : at_ < 100) (hp : SpotsAt w w.heap.size P sp) (hpc : sp.length ≤ cp) (hpl : sp.length ≤ 100) (hpa : ∀ x ∈ sp, x.1 < 200 ∧ x.2.length ≤ 8) (h16 : n % 16 = 11) :
    Calls Tryd.prog 48 #[.slice A cells.length c, .int .i64 n, .slice S st.length cs, .int .i64 funcs, .int .i64 at_, .slice P sp.length cp] w (PickBack w cells st funcs at_ sp) := by
  have W16 := Lib.hid (fun W => show Calls Tryd.prog 35 #[.int .i64 n, .int .i64 16] W (fun e w' => e = .returned (.int .i64 11) ∧ W = w') from by have h := within12_any n 16 (by decide) (by decide) W; rw [h16] at h; exact h)
  have W4 := Lib.hid (fun (a : Int) (W : World) => show Calls Tryd.prog 35 #[.int .i64 a, .int .i64 4] W (fun e w' => ∃ q : Nat, q < 4 ∧ e = .returned (.int .i64 q) ∧ W = w') from within12_nat a 4 (by decide) (by decide) W)
  have W6 := Lib.hid (fun (a : Int) (W : World) => show Calls Tryd.prog 35 #[.int .i64 a, .int .i64 6] W (fun e w' => ∃ q : Nat, q < 6 ∧ e = .returned (.int .i64 q) ∧ W = w') from within12_nat a 6 (by decide) (by decide) W)
  have WL := Lib.hid (fun a W => within12_nat a cells.length hcl.1 (by omega) W)
  obtain ⟨K, hK⟩ : ∃ K, IntKind.i64.wrap (n.tdiv 32) = K := ⟨_, rfl⟩
  obtain ⟨hcl0, hcl1⟩ := hcl
  have hcI : (cells.length : Int) ≤ c := by omega
  have hcl2 : (cells.length : Int) ≤ 200 := by omega
  clear h16 
  have HQ6 := Lib.hid (show ∀ q : Nat, q < 6 → (q : Int) < 6 from fun q h => by omega)
  have HF0 := Lib.hid (show Five (w.alloc (.cells #[.int .i64 0, .int .i64 0, .int .i64 0, .int .i64 0, .int .i64 0] 67)) w.heap.size 0 0 0 0 0 from by constructor <;> go_simp)
  have HB0 := Lib.hid (show Below w.heap.size w (w.alloc (.cells #[.int .i64 0, .int .i64 0, .int .i64 0, .int .i64 0, .int .i64 0] 67)) from (Below.refl _ w).alloc (Nat.le_refl _) _)
  have hlt0 : w.heap.size < (w.alloc (.cells #[.int .i64 0, .int .i64 0, .int .i64 0, .int .i64 0, .int .i64 0] 67)).heap.size := by simp
  have TOQ := fun u (hu : Below w.heap.size w u) => (top12_any S cs st 1 u ((hs.below hu).more hu.size) hsc (by omega) : Calls Tryd.prog 67 #[.slice S st.length cs, .int .i64 1] u fun e w' => e = .returned (.bool (topB st 1)) ∧ Below u.heap.size u w')
  cases htb : topB st 1
  · rw [htb] at TOQ
    have HTO := Lib.hid TOQ
    clear TOQ htb
    clear hr hs hp hpa hsk
    go_enter Tryd.func48, Tryd.ntmps48
    go_wp2_with (first | (go_at_call 35; first | ((with_reducible refine (W16.out _).mono ?_); rintro e _ ⟨rfl, rfl⟩) | ((with_reducible refine (W4.out _ _).mono ?_); rintro e _ ⟨q4, hq4, rfl, rfl⟩)) | (go_at_call 67; refine (HTO.out _ (by repeat (first | (with_reducible exact Below.refl _ _) | (with_reducible exact HB0.out) | (with_reducible refine Below.setCell ?_ (by first | omega | (simp; done) | (simp; omega)) _) | (with_reducible refine Below.drew ?_) | (with_reducible refine below_dN _ ?_) | (with_reducible refine Below.alloc ?_ (by first | omega | (simp; done) | (simp; omega)) _)))).mono ?_; rintro e wt ⟨rfl, hbt⟩; obtain ⟨c0, c1, c2, c3, c4, f0, f1, f2, f3, f4⟩ := five_below HF0.out hbt hlt0; have HFT := Lib.hid (five_below HF0.out hbt hlt0); have hltt : w.heap.size < wt.heap.size := Nat.lt_of_lt_of_le hlt0 hbt.size; have HBT := Lib.hid (below3 HB0.out (Nat.le_of_lt hlt0) hbt); clear hbt))
    refine bodyPost_ret (v := .agg #[.int .i64 0, .int .i64 0, .int .i64 24, .int .i64 ((q4 : Int)), .int .i64 (0)]) ((fun (W : World) (h : Cells5 W w.heap.size 0 0 (24) ((q4 : Int)) (0)) => (by obtain ⟨c0, c1, c2, c3, c4⟩ := h; simp [results, Tryd.results48, go_sem, c0, c1, c2, c3, c4] : (results _ _).run _ W = .ok _ W)) _ (by constructor <;> (go_simp; try exact IntWalk.i64_in _ (by omega)))) rfl (pickBack (po_in _ hq4) (by repeat (first | (with_reducible exact Below.refl _ _) | (with_reducible exact HBT.out) | (with_reducible refine Below.setCell ?_ (by first | omega | (simp; done) | (simp; omega)) _) | (with_reducible refine Below.drew ?_) | (with_reducible refine below_dN _ ?_) | (with_reducible refine Below.alloc ?_ (by first | omega | (simp; done) | (simp; omega)) _))))
  · rw [htb] at TOQ
    have HTO := Lib.hid TOQ
    have HTB := Lib.hid htb
    obtain ⟨r, rfl⟩ := topB_cases htb
    obtain ⟨m, hm⟩ : ∃ m, r.length = m := ⟨_, rfl⟩
    have hl : (r ++ [1]).length = m + 1 := by simp [hm]
    rw [hl] at hs hsc hs8
    have HRT := Lib.hid (row_take (m := m) (k := 1) (base := r) (tops := [1]) hs hm)
    rw [hl] at HTO
    obtain ⟨zb, zo, hSz, _, _⟩ := hs.2 (by omega)
    subst hSz
    have hmc : (m : Int) ≤ cs := by omega
    have hmc' : m ≤ cs := by omega
    have hmw : IntKind.i64.wrap (m : Int) = m := IntWalk.i64_in _ (by omega)
    rw [hl]
    have HM := Lib.hid hm
    have HSP := Lib.hid hp
    have HPA := Lib.hid hpa
    have hk7 : (m : Int) + 1 - 1 = m := by omega
    have hk8 : (m : Int) + 1 ≤ cs := by omega
    have hk9 : (m : Int) ≤ 8 := by omega
    have hat' : (at_ : Int) < 100 := by omega
    have hpc' : (sp.length : Int) ≤ cp := by omega
    have hpl' : (sp.length : Int) ≤ 100 := by omega
    clear TOQ htb hr hs hp hpa hsk hm hl
    go_enter Tryd.func48, Tryd.ntmps48
    go_wp2_with (first | (go_at_call 35; first | ((with_reducible refine (W16.out _).mono ?_); rintro e _ ⟨rfl, rfl⟩)) | (go_at_call 67; refine (HTO.out _ (by repeat (first | (with_reducible exact Below.refl _ _) | (with_reducible exact HB0.out) | (with_reducible refine Below.setCell ?_ (by first | omega | (simp; done) | (simp; omega)) _) | (with_reducible refine Below.drew ?_) | (with_reducible refine below_dN _ ?_) | (with_reducible refine Below.alloc ?_ (by first | omega | (simp; done) | (simp; omega)) _)))).mono ?_; rintro e wt ⟨rfl, hbt⟩; obtain ⟨c0, c1, c2, c3, c4, f0, f1, f2, f3, f4⟩ := five_below HF0.out hbt hlt0; have HFT := Lib.hid (five_below HF0.out hbt hlt0); have hltt : w.heap.size < wt.heap.size := Nat.lt_of_lt_of_le hlt0 hbt.size; have HBT := Lib.hid (below3 HB0.out (Nat.le_of_lt hlt0) hbt); clear hbt))
    go_loopw [18] (fun i wr => PRel w sp.length i wr) (fun i _ => sp.length - (intOf i).toNat)
    case atStart => exact ⟨0, rfl, Nat.zero_le _, HBT.out, HFT.out, hltt⟩
    case round =>
      obtain ⟨j, rfl, hj, hb, hfw, hltw⟩ := hrel
      have HB := Lib.hid hb
      have HFW := Lib.hid hfw
      obtain ⟨c0, c1, c2, c3, c4, f0, f1, f2, f3, f4⟩ := hfw
      by_cases hjl : j < sp.length
      · have hjl' : (j : Int) < sp.length := by omega
        obtain ⟨q0, hq0, wq⟩ := within12_at (wrap64 (K + (j : Int))) sp.length (by omega) (by omega)
        have WQ := Lib.hid wq
        obtain ⟨b, off, hP, hlt, hss⟩ := HSP.out.at_ (by omega)
        obtain ⟨⟨xa, xs⟩, hx⟩ : ∃ x, sp[q0]? = some x := ⟨_, List.getElem?_eq_getElem hq0⟩
        obtain ⟨XA, xc, c0', c1', hxc, hxm, hxr⟩ := hss q0 _ hx
        have e0 : wr.cell? ⟨b, off + q0 * 2, none⟩ = some (.int .i64 xa) := (dcell hb hlt _).trans c0'
        have e1 : wr.cell? ⟨b, off + q0 * 2 + 1, none⟩ = some (.slice XA xs.length xc) := (dcell hb hlt _).trans c1'
        simp only at c0' c1' hxc hxr
        have hxx := HPA.out _ (List.mem_of_getElem? hx)
        have hxa : xa < 200 := hxx.1
        have hxs8 : xs.length ≤ 8 := hxx.2
        have hrr : Row w w.heap.size 1 (some ⟨zb, zo, none⟩) r.length (r.map (Value.int .i64)) := by rw [HM.out]; exact HRT.out
        have SM := fun u (hu : Below wr.heap.size wr u) => same12_any XA (some ⟨zb, zo, none⟩) xc cs xs r u (((hxr.below hb).more hb.size).below hu |>.more hu.size) (((hrr.below hb).more hb.size).below hu |>.more hu.size) hxc (by rw [HM.out]; omega) (by omega) (by rw [HM.out]; omega)
        rw [HM.out] at SM
        have HX := Lib.hid hx
        have hq0I : (q0 : Int) < sp.length := by omega
        have hxcI : (xs.length : Int) ≤ xc := by omega
        have HBR := Lib.hid (Below.refl wr.heap.size wr)
        subst hP
        clear wq hx hb hss c0' c1' hxx hxr hrr
        by_cases hxr : xs = r
        · have HXR := Lib.hid hxr
          rw [decide_eq_true hxr] at SM
          have HSM := Lib.hid SM
          clear SM hxr
          go_wp2_with (first | (go_at_call 35; first | ((with_reducible refine (W16.out _).mono ?_); rintro e _ ⟨rfl, rfl⟩) | ((with_reducible refine (WQ.out _ (by first | rfl | simp) _).mono ?_); rintro e _ ⟨rfl, rfl⟩)))
          obtain ⟨wx, hwx⟩ : ∃ x : World, x = wr.alloc (.cells #[.int .i64 (xa : Int), .slice XA xs.length xc] 96) := ⟨_, rfl⟩
          have HBX := Lib.hid (show Below wr.heap.size wr wx from by rw [hwx]; exact (Below.refl _ _).alloc (Nat.le_refl _) _)
          have x0 : wx.cell? ⟨wr.heap.size, 0, none⟩ = some (.int .i64 xa) := by rw [hwx]; go_simp
          have x1 : wx.cell? ⟨wr.heap.size, 1, none⟩ = some (.slice XA xs.length xc) := by rw [hwx]; go_simp
          have hwxz : wx.heap.size = wr.heap.size + 1 := by rw [hwx]; simp
          have hltx : w.heap.size < wx.heap.size := by omega
          have hxw : wr.heap.size < wx.heap.size := by omega
          have HFX := Lib.hid (five_below HFW.out HBX.out hltw)
          have HBWX := Lib.hid (below3 HB.out (Nat.le_of_lt hltw) HBX.out)
          rw [← hwx]
          clear hwx
          go_region_held3 (fun w' => w'.cell? ⟨wr.heap.size, 0, none⟩ = some (.int .i64 (xa : Int)) ∧ w'.cell? ⟨wr.heap.size, 1, none⟩ = some (.slice XA xs.length xc)) (exact keepX (u1 := wx) (by repeat (first | (with_reducible exact Below.refl _ _) | (with_reducible exact HBS0.out) | (with_reducible refine Below.setCell ?_ (by first | omega | (simp; done) | (simp; omega)) _) | (with_reducible refine Below.drew ?_) | (with_reducible refine below_dN _ ?_) | (with_reducible refine Below.alloc ?_ (by first | omega | (simp; done) | (simp; omega)) _))) hxw x0 x1) (first | (go_at_call 68; refine (HSM.out _ (HBX.out.trans (Below.mono (by repeat (first | (with_reducible exact Below.refl _ _) | (with_reducible exact HBS0.out) | (with_reducible refine Below.setCell ?_ (by first | omega | (simp; done) | (simp; omega)) _) | (with_reducible refine Below.drew ?_) | (with_reducible refine below_dN _ ?_) | (with_reducible refine Below.alloc ?_ (by first | omega | (simp; done) | (simp; omega)) _))) (Nat.le_of_lt hxw)))).mono ?_; rintro e wt ⟨rfl, hbt⟩; have HBS0 := Lib.hid (show Below wx.heap.size wx wt from Below.trans (by repeat (first | (with_reducible exact Below.refl _ _) | (with_reducible exact HBS0.out) | (with_reducible refine Below.setCell ?_ (by first | omega | (simp; done) | (simp; omega)) _) | (with_reducible refine Below.drew ?_) | (with_reducible refine below_dN _ ?_) | (with_reducible refine Below.alloc ?_ (by first | omega | (simp; done) | (simp; omega)) _))) (hbt.mono (by first | omega | (simp; done) | (simp; omega)))); clear hbt))
          all_goals have HFT := Lib.hid (five_below HFX.out HBS0.out hltx)
          all_goals obtain ⟨c0, c1, c2, c3, c4, f0, f1, f2, f3, f4⟩ := HFT.out
          all_goals have y0 := (dcell HBS0.out hxw 0).trans x0
          all_goals have hzt := HBS0.out.size
          all_goals have hltt : w.heap.size < wt.heap.size := by omega
          all_goals have HBS := Lib.hid (below3 HBWX.out (Nat.le_of_lt hltx) HBS0.out)
          all_goals go_wp2_with fail
          all_goals refine bodyPost_ret (v := .agg #[.int .i64 0, .int .i64 0, .int .i64 19, .int .i64 ((xa : Int)), .int .i64 (0)]) ((fun (W : World) (h : Cells5 W w.heap.size 0 0 (19) ((xa : Int)) (0)) => (by obtain ⟨c0, c1, c2, c3, c4⟩ := h; simp [results, Tryd.results48, go_sem, c0, c1, c2, c3, c4] : (results _ _).run _ W = .ok _ W)) _ (by constructor <;> (go_simp; try exact IntWalk.i64_in _ (by omega)))) rfl (pickBack (po_jz (xa : Int) (by omega) (by omega) HTB.out (.inr ⟨_, List.mem_of_getElem? HX.out, rfl, by rw [HXR.out]; simp⟩)) (by repeat (first | (with_reducible exact Below.refl _ _) | (with_reducible exact HBS.out) | (with_reducible refine Below.setCell ?_ (by first | omega | (simp; done) | (simp; omega)) _) | (with_reducible refine Below.drew ?_) | (with_reducible refine below_dN _ ?_) | (with_reducible refine Below.alloc ?_ (by first | omega | (simp; done) | (simp; omega)) _))))
        · rw [decide_eq_false hxr] at SM
          have HSM := Lib.hid SM
          clear SM hxr
          go_wp2_with (first | (go_at_call 35; first | ((with_reducible refine (W16.out _).mono ?_); rintro e _ ⟨rfl, rfl⟩) | ((with_reducible refine (WQ.out _ (by first | rfl | simp) _).mono ?_); rintro e _ ⟨rfl, rfl⟩)))
          obtain ⟨wx, hwx⟩ : ∃ x : World, x = wr.alloc (.cells #[.int .i64 (xa : Int), .slice XA xs.length xc] 96) := ⟨_, rfl⟩
          have HBX := Lib.hid (show Below wr.heap.size wr wx from by rw [hwx]; exact (Below.refl _ _).alloc (Nat.le_refl _) _)
          have x0 : wx.cell? ⟨wr.heap.size, 0, none⟩ = some (.int .i64 xa) := by rw [hwx]; go_simp
          have x1 : wx.cell? ⟨wr.heap.size, 1, none⟩ = some (.slice XA xs.length xc) := by rw [hwx]; go_simp
          have hwxz : wx.heap.size = wr.heap.size + 1 := by rw [hwx]; simp
          have hltx : w.heap.size < wx.heap.size := by omega
          have hxw : wr.heap.size < wx.heap.size := by omega
          have HFX := Lib.hid (five_below HFW.out HBX.out hltw)
          have HBWX := Lib.hid (below3 HB.out (Nat.le_of_lt hltw) HBX.out)
          rw [← hwx]
          clear hwx
          go_region_held3 (fun w' => w'.cell? ⟨wr.heap.size, 0, none⟩ = some (.int .i64 (xa : Int)) ∧ w'.cell? ⟨wr.heap.size, 1, none⟩ = some (.slice XA xs.length xc)) (exact keepX (u1 := wx) (by repeat (first | (with_reducible exact Below.refl _ _) | (with_reducible exact HBS0.out) | (with_reducible refine Below.setCell ?_ (by first | omega | (simp; done) | (simp; omega)) _) | (with_reducible refine Below.drew ?_) | (with_reducible refine below_dN _ ?_) | (with_reducible refine Below.alloc ?_ (by first | omega | (simp; done) | (simp; omega)) _))) hxw x0 x1) (first | (go_at_call 68; refine (HSM.out _ (HBX.out.trans (Below.mono (by repeat (first | (with_reducible exact Below.refl _ _) | (with_reducible exact HBS0.out) | (with_reducible refine Below.setCell ?_ (by first | omega | (simp; done) | (simp; omega)) _) | (with_reducible refine Below.drew ?_) | (with_reducible refine below_dN _ ?_) | (with_reducible refine Below.alloc ?_ (by first | omega | (simp; done) | (simp; omega)) _))) (Nat.le_of_lt hxw)))).mono ?_; rintro e wt ⟨rfl, hbt⟩; have HBS0 := Lib.hid (show Below wx.heap.size wx wt from Below.trans (by repeat (first | (with_reducible exact Below.refl _ _) | (with_reducible exact HBS0.out) | (with_reducible refine Below.setCell ?_ (by first | omega | (simp; done) | (simp; omega)) _) | (with_reducible refine Below.drew ?_) | (with_reducible refine below_dN _ ?_) | (with_reducible refine Below.alloc ?_ (by first | omega | (simp; done) | (simp; omega)) _))) (hbt.mono (by first | omega | (simp; done) | (simp; omega)))); clear hbt))
          all_goals have HFT := Lib.hid (five_below HFX.out HBS0.out hltx)
          all_goals obtain ⟨c0, c1, c2, c3, c4, f0, f1, f2, f3, f4⟩ := HFT.out
          all_goals have y0 := (dcell HBS0.out hxw 0).trans x0
          all_goals have hzt := HBS0.out.size
          all_goals have hltt : w.heap.size < wt.heap.size := by omega
          all_goals have HBS := Lib.hid (below3 HBWX.out (Nat.le_of_lt hltx) HBS0.out)
          all_goals (go_wp2_with fail; go_roundw; (case rel => exact ⟨j + 1, rfl, by omega, HBS.out, HFT.out, hltt⟩); (case measure => (simp [intOf]; omega)))
      · have hje : j = sp.length := by omega
        subst hje
        clear hb
        go_wp2_with fail
        refine bodyPost_ret (v := .agg #[.int .i64 0, .int .i64 0, .int .i64 19, .int .i64 ((at_ : Int) + 2), .int .i64 (0)]) ((fun (W : World) (h : Cells5 W w.heap.size 0 0 (19) ((at_ : Int) + 2) (0)) => (by obtain ⟨c0, c1, c2, c3, c4⟩ := h; simp [results, Tryd.results48, go_sem, c0, c1, c2, c3, c4] : (results _ _).run _ W = .ok _ W)) _ (by constructor <;> (go_simp; try exact IntWalk.i64_in _ (by omega)))) rfl (pickBack (po_jz ((at_ : Int) + 2) (by omega) (by omega) HTB.out (.inl rfl)) (by repeat (first | (with_reducible exact Below.refl _ _) | (with_reducible exact HB.out) | (with_reducible refine Below.setCell ?_ (by first | omega | (simp; done) | (simp; omega)) _) | (with_reducible refine Below.drew ?_) | (with_reducible refine below_dN _ ?_) | (with_reducible refine Below.alloc ?_ (by first | omega | (simp; done) | (simp; omega)) _))))
set_option maxHeartbeats 8000000 in
set_option maxRecDepth 100000 in
theorem pick_12 (A : Option Addr) (c : Nat) (cells : List CellD) (n : Int) (S : Option Addr) (cs : Nat) (st : List Int) (funcs : Nat) (at_ : Nat) (P : Option Addr) (cp : Nat) (sp : List (Nat × List Int)) (w : World) (hn : I64 n) (hr : Row w w.heap.size 6 A cells.length (cellRow cells)) (hc : cells.length ≤ c) (hcl : 0 < cells.length ∧ cells.length ≤ 200)
    (hs : Row w w.heap.size 1 S st.length (st.map (Value.int .i64))) (hsc : st.length ≤ cs) (hs8 : st.length ≤ 8) (hsk : ∀ x ∈ st, 1 ≤ x ∧ x ≤ 6) (hf : funcs ≤ 2) (hat : at_ < 100) (hp : SpotsAt w w.heap.size P sp) (hpc : sp.length ≤ cp) (hpl : sp.length ≤ 100) (hpa : ∀ x ∈ sp, x.1 < 200 ∧ x.2.length ≤ 8) (h16 : n % 16 = 12) :
    Calls Tryd.prog 48 #[.slice A cells.length c, .int .i64 n, .slice S st.length cs, .int .i64 funcs, .int .i64 at_, .slice P sp.length cp] w (PickBack w cells st funcs at_ sp) := by
  have W16 := Lib.hid (fun W => show Calls Tryd.prog 35 #[.int .i64 n, .int .i64 16] W (fun e w' => e = .returned (.int .i64 12) ∧ W = w') from by have h := within12_any n 16 (by decide) (by decide) W; rw [h16] at h; exact h)
  have W4 := Lib.hid (fun (a : Int) (W : World) => show Calls Tryd.prog 35 #[.int .i64 a, .int .i64 4] W (fun e w' => ∃ q : Nat, q < 4 ∧ e = .returned (.int .i64 q) ∧ W = w') from within12_nat a 4 (by decide) (by decide) W)
  have W6 := Lib.hid (fun (a : Int) (W : World) => show Calls Tryd.prog 35 #[.int .i64 a, .int .i64 6] W (fun e w' => ∃ q : Nat, q < 6 ∧ e = .returned (.int .i64 q) ∧ W = w') from within12_nat a 6 (by decide) (by decide) W)
  have WL := Lib.hid (fun a W => within12_nat a cells.length hcl.1 (by omega) W)
  obtain ⟨K, hK⟩ : ∃ K, IntKind.i64.wrap (n.tdiv 32) = K := ⟨_, rfl⟩
  obtain ⟨hcl0, hcl1⟩ := hcl
  have hcI : (cells.length : Int) ≤ c := by omega
  have hcl2 : (cells.length : Int) ≤ 200 := by omega
  clear h16 hp hpa hsk
  have HQ6 := Lib.hid (show ∀ q : Nat, q < 6 → (q : Int) < 6 from fun q h => by omega)
  have HF0 := Lib.hid (show Five (w.alloc (.cells #[.int .i64 0, .int .i64 0, .int .i64 0, .int .i64 0, .int .i64 0] 67)) w.heap.size 0 0 0 0 0 from by constructor <;> go_simp)
  have HB0 := Lib.hid (show Below w.heap.size w (w.alloc (.cells #[.int .i64 0, .int .i64 0, .int .i64 0, .int .i64 0, .int .i64 0] 67)) from (Below.refl _ w).alloc (Nat.le_refl _) _)
  have hlt0 : w.heap.size < (w.alloc (.cells #[.int .i64 0, .int .i64 0, .int .i64 0, .int .i64 0, .int .i64 0] 67)).heap.size := by simp
  have HR := Lib.hid hr
  obtain ⟨cb, co, hA, hcb, -⟩ := hr.2 hcl0
  subst hA
  have TOQ := fun u (hu : Below w.heap.size w u) => (top12_any S cs st 5 u ((hs.below hu).more hu.size) hsc (by omega) : Calls Tryd.prog 67 #[.slice S st.length cs, .int .i64 5] u fun e w' => e = .returned (.bool (topB st 5)) ∧ Below u.heap.size u w')
  cases htb : topB st 5
  · rw [htb] at TOQ
    have HTO := Lib.hid TOQ
    clear TOQ htb
    clear hr hs
    go_enter Tryd.func48, Tryd.ntmps48
    go_wp2_with (first | (go_at_call 35; first | ((with_reducible refine (W16.out _).mono ?_); rintro e _ ⟨rfl, rfl⟩) | ((with_reducible refine (W4.out _ _).mono ?_); rintro e _ ⟨q4, hq4, rfl, rfl⟩)) | (go_at_call 67; refine (HTO.out _ (by repeat (first | (with_reducible exact Below.refl _ _) | (with_reducible exact HB0.out) | (with_reducible refine Below.setCell ?_ (by first | omega | (simp; done) | (simp; omega)) _) | (with_reducible refine Below.drew ?_) | (with_reducible refine below_dN _ ?_) | (with_reducible refine Below.alloc ?_ (by first | omega | (simp; done) | (simp; omega)) _)))).mono ?_; rintro e wt ⟨rfl, hbt⟩; obtain ⟨c0, c1, c2, c3, c4, f0, f1, f2, f3, f4⟩ := five_below HF0.out hbt hlt0; have HFT := Lib.hid (five_below HF0.out hbt hlt0); have hltt : w.heap.size < wt.heap.size := Nat.lt_of_lt_of_le hlt0 hbt.size; have HBT := Lib.hid (below3 HB0.out (Nat.le_of_lt hlt0) hbt); clear hbt))
    refine bodyPost_ret (v := .agg #[.int .i64 0, .int .i64 0, .int .i64 24, .int .i64 ((q4 : Int)), .int .i64 (0)]) ((fun (W : World) (h : Cells5 W w.heap.size 0 0 (24) ((q4 : Int)) (0)) => (by obtain ⟨c0, c1, c2, c3, c4⟩ := h; simp [results, Tryd.results48, go_sem, c0, c1, c2, c3, c4] : (results _ _).run _ W = .ok _ W)) _ (by constructor <;> (go_simp; try exact IntWalk.i64_in _ (by omega)))) rfl (pickBack (po_in _ hq4) (by repeat (first | (with_reducible exact Below.refl _ _) | (with_reducible exact HBT.out) | (with_reducible refine Below.setCell ?_ (by first | omega | (simp; done) | (simp; omega)) _) | (with_reducible refine Below.drew ?_) | (with_reducible refine below_dN _ ?_) | (with_reducible refine Below.alloc ?_ (by first | omega | (simp; done) | (simp; omega)) _))))
  · rw [htb] at TOQ
    have HTO := Lib.hid TOQ
    have HTB := Lib.hid htb
    clear TOQ htb hr hs
    go_enter Tryd.func48, Tryd.ntmps48
    go_wp2_with (first | (go_at_call 35; first | ((with_reducible refine (W16.out _).mono ?_); rintro e _ ⟨rfl, rfl⟩)) | (go_at_call 67; refine (HTO.out _ (by repeat (first | (with_reducible exact Below.refl _ _) | (with_reducible exact HB0.out) | (with_reducible refine Below.setCell ?_ (by first | omega | (simp; done) | (simp; omega)) _) | (with_reducible refine Below.drew ?_) | (with_reducible refine below_dN _ ?_) | (with_reducible refine Below.alloc ?_ (by first | omega | (simp; done) | (simp; omega)) _)))).mono ?_; rintro e wt ⟨rfl, hbt⟩; obtain ⟨c0, c1, c2, c3, c4, f0, f1, f2, f3, f4⟩ := five_below HF0.out hbt hlt0; have HFT := Lib.hid (five_below HF0.out hbt hlt0); have hltt : w.heap.size < wt.heap.size := Nat.lt_of_lt_of_le hlt0 hbt.size; have HBT := Lib.hid (below3 HB0.out (Nat.le_of_lt hlt0) hbt); clear hbt))
    go_loopw [20] (fun i wr => PRel w cells.length i wr) (fun i _ => cells.length - (intOf i).toNat)
    case atStart => exact ⟨0, rfl, Nat.zero_le _, HBT.out, HFT.out, hltt⟩
    case round =>
      obtain ⟨j, rfl, hj, hb, hfw, hltw⟩ := hrel
      have HB := Lib.hid hb
      have HFW := Lib.hid hfw
      obtain ⟨c0, c1, c2, c3, c4, f0, f1, f2, f3, f4⟩ := hfw
      by_cases hjl : j < cells.length
      · have hjl' : (j : Int) < cells.length := by omega
        obtain ⟨x, hx, e1, e4, e5⟩ := cell_row HR.out hb j hjl
        have HX := Lib.hid hx
        clear hx hb e1 e5
        by_cases hxl : 0 < x.len
        · have HXL := Lib.hid hxl
          go_wp2_with fail
          refine bodyPost_ret (v := .agg #[.int .i64 0, .int .i64 0, .int .i64 5, .int .i64 ((j : Int)), .int .i64 (0)]) ((fun (W : World) (h : Cells5 W w.heap.size 0 0 (5) ((j : Int)) (0)) => (by obtain ⟨c0, c1, c2, c3, c4⟩ := h; simp [results, Tryd.results48, go_sem, c0, c1, c2, c3, c4] : (results _ _).run _ W = .ok _ W)) _ (by constructor <;> (go_simp; try exact IntWalk.i64_in _ (by omega)))) rfl (pickBack (po_loadx _ x HX.out hcl1 HXL.out HTB.out) (by repeat (first | (with_reducible exact Below.refl _ _) | (with_reducible exact HB.out) | (with_reducible refine Below.setCell ?_ (by first | omega | (simp; done) | (simp; omega)) _) | (with_reducible refine Below.drew ?_) | (with_reducible refine below_dN _ ?_) | (with_reducible refine Below.alloc ?_ (by first | omega | (simp; done) | (simp; omega)) _))))
        · go_wp2_with fail
          go_roundw
          case rel => exact ⟨j + 1, rfl, by omega, HB.out, HFW.out, hltw⟩
          case measure => simp [intOf]; omega
      · have hje : j = cells.length := by omega
        subst hje
        clear hb
        go_wp2_with (first | (go_at_call 35; first | ((with_reducible refine (W16.out _).mono ?_); rintro e _ ⟨rfl, rfl⟩) | ((with_reducible refine (W4.out _ _).mono ?_); rintro e _ ⟨q4, hq4, rfl, rfl⟩)))
        refine bodyPost_ret (v := .agg #[.int .i64 0, .int .i64 0, .int .i64 24, .int .i64 ((q4 : Int)), .int .i64 (0)]) ((fun (W : World) (h : Cells5 W w.heap.size 0 0 (24) ((q4 : Int)) (0)) => (by obtain ⟨c0, c1, c2, c3, c4⟩ := h; simp [results, Tryd.results48, go_sem, c0, c1, c2, c3, c4] : (results _ _).run _ W = .ok _ W)) _ (by constructor <;> (go_simp; try exact IntWalk.i64_in _ (by omega)))) rfl (pickBack (po_in _ hq4) (by repeat (first | (with_reducible exact Below.refl _ _) | (with_reducible exact HB.out) | (with_reducible refine Below.setCell ?_ (by first | omega | (simp; done) | (simp; omega)) _) | (with_reducible refine Below.drew ?_) | (with_reducible refine below_dN _ ?_) | (with_reducible refine Below.alloc ?_ (by first | omega | (simp; done) | (simp; omega)) _))))
set_option maxHeartbeats 8000000 in
set_option maxRecDepth 100000 in
theorem pick_13 (A : Option Addr) (c : Nat) (cells : List CellD) (n : Int) (S : Option Addr) (cs : Nat) (st : List Int) (funcs : Nat) (at_ : Nat) (P : Option Addr) (cp : Nat) (sp : List (Nat × List Int)) (w : World) (hn : I64 n) (hr : Row w w.heap.size 6 A cells.length (cellRow cells)) (hc : cells.length ≤ c) (hcl : 0 < cells.length ∧ cells.length ≤ 200)
    (hs : Row w w.heap.size 1 S st.length (st.map (Value.int .i64))) (hsc : st.length ≤ cs) (hs8 : st.length ≤ 8) (hsk : ∀ x ∈ st, 1 ≤ x ∧ x ≤ 6) (hf : funcs ≤ 2) (hat : at_ < 100) (hp : SpotsAt w w.heap.size P sp) (hpc : sp.length ≤ cp) (hpl : sp.length ≤ 100) (hpa : ∀ x ∈ sp, x.1 < 200 ∧ x.2.length ≤ 8) (h16 : n % 16 = 13) :
    Calls Tryd.prog 48 #[.slice A cells.length c, .int .i64 n, .slice S st.length cs, .int .i64 funcs, .int .i64 at_, .slice P sp.length cp] w (PickBack w cells st funcs at_ sp) := by
  have W16 := Lib.hid (fun W => show Calls Tryd.prog 35 #[.int .i64 n, .int .i64 16] W (fun e w' => e = .returned (.int .i64 13) ∧ W = w') from by have h := within12_any n 16 (by decide) (by decide) W; rw [h16] at h; exact h)
  have W4 := Lib.hid (fun (a : Int) (W : World) => show Calls Tryd.prog 35 #[.int .i64 a, .int .i64 4] W (fun e w' => ∃ q : Nat, q < 4 ∧ e = .returned (.int .i64 q) ∧ W = w') from within12_nat a 4 (by decide) (by decide) W)
  have W6 := Lib.hid (fun (a : Int) (W : World) => show Calls Tryd.prog 35 #[.int .i64 a, .int .i64 6] W (fun e w' => ∃ q : Nat, q < 6 ∧ e = .returned (.int .i64 q) ∧ W = w') from within12_nat a 6 (by decide) (by decide) W)
  have WL := Lib.hid (fun a W => within12_nat a cells.length hcl.1 (by omega) W)
  obtain ⟨K, hK⟩ : ∃ K, IntKind.i64.wrap (n.tdiv 32) = K := ⟨_, rfl⟩
  obtain ⟨hcl0, hcl1⟩ := hcl
  have hcI : (cells.length : Int) ≤ c := by omega
  have hcl2 : (cells.length : Int) ≤ 200 := by omega
  clear h16 hs hp hpa hsk
  have HQ6 := Lib.hid (show ∀ q : Nat, q < 6 → (q : Int) < 6 from fun q h => by omega)
  have HF0 := Lib.hid (show Five (w.alloc (.cells #[.int .i64 0, .int .i64 0, .int .i64 0, .int .i64 0, .int .i64 0] 67)) w.heap.size 0 0 0 0 0 from by constructor <;> go_simp)
  have HB0 := Lib.hid (show Below w.heap.size w (w.alloc (.cells #[.int .i64 0, .int .i64 0, .int .i64 0, .int .i64 0, .int .i64 0] 67)) from (Below.refl _ w).alloc (Nat.le_refl _) _)
  have hlt0 : w.heap.size < (w.alloc (.cells #[.int .i64 0, .int .i64 0, .int .i64 0, .int .i64 0, .int .i64 0] 67)).heap.size := by simp
  have HR := Lib.hid hr
  obtain ⟨cb, co, hA, hcb, -⟩ := hr.2 hcl0
  subst hA
  clear hr
  obtain ⟨q3, hq3, wq3⟩ := within12_int K 3 (by decide) (by decide)
  have WQ3 := Lib.hid wq3
  clear wq3
  have hfI : (funcs : Int) ≤ 2 := by omega
  by_cases h3 : q3 = 0 ∧ 0 < funcs
  · obtain ⟨rfl, hf0⟩ := h3
    have WF := Lib.hid (fun a W => within12_nat a funcs hf0 (by omega) W)
    have hf0I : (0 : Int) < funcs := by omega
    have HQF := Lib.hid (show ∀ q : Nat, q < funcs → (q : Int) < funcs from fun q h => by omega)
    go_enter Tryd.func48, Tryd.ntmps48
    go_wp2_with (first | (go_at_call 35; first | ((with_reducible refine (W16.out _).mono ?_); rintro e _ ⟨rfl, rfl⟩) | ((with_reducible refine (WQ3.out _ (by first | rfl | simp) _).mono ?_); rintro e _ ⟨rfl, rfl⟩) | ((with_reducible refine (WF.out _ _).mono ?_); rintro e _ ⟨qf, hqf, rfl, rfl⟩; have hqfI := HQF.out _ hqf)))
    refine bodyPost_ret (v := .agg #[.int .i64 0, .int .i64 0, .int .i64 20, .int .i64 (1 + (qf : Int)), .int .i64 (0)]) ((fun (W : World) (h : Cells5 W w.heap.size 0 0 (20) (1 + (qf : Int)) (0)) => (by obtain ⟨c0, c1, c2, c3, c4⟩ := h; simp [results, Tryd.results48, go_sem, c0, c1, c2, c3, c4] : (results _ _).run _ W = .ok _ W)) _ (by constructor <;> (go_simp; try exact IntWalk.i64_in _ (by omega)))) rfl (pickBack (po_call _ hqfI hfI) (by repeat (first | (with_reducible exact Below.refl _ _) | (with_reducible exact HB0.out) | (with_reducible refine Below.setCell ?_ (by first | omega | (simp; done) | (simp; omega)) _) | (with_reducible refine Below.drew ?_) | (with_reducible refine below_dN _ ?_) | (with_reducible refine Below.alloc ?_ (by first | omega | (simp; done) | (simp; omega)) _))))
  · have h3' : (q3 == 0) = false ∨ (q3 = 0 ∧ funcs = 0) := by
      by_cases h : q3 = 0
      · right; omega
      · left; simpa using h
    clear h3
    rcases h3' with hq30 | ⟨rfl, rfl⟩
    all_goals
      go_enter Tryd.func48, Tryd.ntmps48
      go_wp2_with (first | (go_at_call 35; first | ((with_reducible refine (W16.out _).mono ?_); rintro e _ ⟨rfl, rfl⟩) | ((with_reducible refine (WQ3.out _ (by first | rfl | simp) _).mono ?_); rintro e _ ⟨rfl, rfl⟩)))
      go_loopw [21] (fun i wr => PRel w cells.length i wr) (fun i _ => cells.length - (intOf i).toNat)
      case atStart => exact ⟨0, rfl, Nat.zero_le _, HB0.out, HF0.out, hlt0⟩
      case round =>
        obtain ⟨j, rfl, hj, hb, hfw, hltw⟩ := hrel
        have HB := Lib.hid hb
        have HFW := Lib.hid hfw
        obtain ⟨c0, c1, c2, c3, c4, f0, f1, f2, f3, f4⟩ := hfw
        by_cases hjl : j < cells.length
        · have hjl' : (j : Int) < cells.length := by omega
          obtain ⟨q0, hq0, wq⟩ := within12_at (wrap64 (K + (j : Int))) cells.length (by omega) (by omega)
          have WQ := Lib.hid wq
          obtain ⟨x, hx, e1, e4, e5⟩ := cell_row HR.out hb q0 hq0
          have HX := Lib.hid hx
          have hq0I : (q0 : Int) < cells.length := by omega
          clear wq hx hb e1 e4
          by_cases hxl : 0 < x.block
          · have HXL := Lib.hid hxl
            go_wp2_with (first | (go_at_call 35; first | ((with_reducible refine (W16.out _).mono ?_); rintro e _ ⟨rfl, rfl⟩) | ((with_reducible refine (WQ.out _ (by first | rfl | simp) _).mono ?_); rintro e _ ⟨rfl, rfl⟩)))
            refine bodyPost_ret (v := .agg #[.int .i64 0, .int .i64 0, .int .i64 27, .int .i64 ((q0 : Int)), .int .i64 (0)]) ((fun (W : World) (h : Cells5 W w.heap.size 0 0 (27) ((q0 : Int)) (0)) => (by obtain ⟨c0, c1, c2, c3, c4⟩ := h; simp [results, Tryd.results48, go_sem, c0, c1, c2, c3, c4] : (results _ _).run _ W = .ok _ W)) _ (by constructor <;> (go_simp; try exact IntWalk.i64_in _ (by omega)))) rfl (pickBack (po_block _ x HX.out hcl1 HXL.out) (by repeat (first | (with_reducible exact Below.refl _ _) | (with_reducible exact HB.out) | (with_reducible refine Below.setCell ?_ (by first | omega | (simp; done) | (simp; omega)) _) | (with_reducible refine Below.drew ?_) | (with_reducible refine below_dN _ ?_) | (with_reducible refine Below.alloc ?_ (by first | omega | (simp; done) | (simp; omega)) _))))
          · go_wp2_with (first | (go_at_call 35; first | ((with_reducible refine (W16.out _).mono ?_); rintro e _ ⟨rfl, rfl⟩) | ((with_reducible refine (WQ.out _ (by first | rfl | simp) _).mono ?_); rintro e _ ⟨rfl, rfl⟩)))
            go_roundw
            case rel => exact ⟨j + 1, rfl, by omega, HB.out, HFW.out, hltw⟩
            case measure => simp [intOf]; omega
        · have hje : j = cells.length := by omega
          subst hje
          clear hb
          go_wp2_with (first | (go_at_call 35; first | ((with_reducible refine (W16.out _).mono ?_); rintro e _ ⟨rfl, rfl⟩) | ((with_reducible refine (W4.out _ _).mono ?_); rintro e _ ⟨q4, hq4, rfl, rfl⟩)))
          refine bodyPost_ret (v := .agg #[.int .i64 0, .int .i64 0, .int .i64 24, .int .i64 ((q4 : Int)), .int .i64 (0)]) ((fun (W : World) (h : Cells5 W w.heap.size 0 0 (24) ((q4 : Int)) (0)) => (by obtain ⟨c0, c1, c2, c3, c4⟩ := h; simp [results, Tryd.results48, go_sem, c0, c1, c2, c3, c4] : (results _ _).run _ W = .ok _ W)) _ (by constructor <;> (go_simp; try exact IntWalk.i64_in _ (by omega)))) rfl (pickBack (po_in _ hq4) (by repeat (first | (with_reducible exact Below.refl _ _) | (with_reducible exact HB.out) | (with_reducible refine Below.setCell ?_ (by first | omega | (simp; done) | (simp; omega)) _) | (with_reducible refine Below.drew ?_) | (with_reducible refine below_dN _ ?_) | (with_reducible refine Below.alloc ?_ (by first | omega | (simp; done) | (simp; omega)) _))))
set_option maxHeartbeats 8000000 in
set_option maxRecDepth 100000 in
theorem pick_15 (A : Option Addr) (c : Nat) (cells : List CellD) (n : Int) (S : Option Addr) (cs : Nat) (st : List Int) (funcs : Nat) (at_ : Nat) (P : Option Addr) (cp : Nat) (sp : List (Nat × List Int)) (w : World) (hn : I64 n) (hr : Row w w.heap.size 6 A cells.length (cellRow cells)) (hc : cells.length ≤ c) (hcl : 0 < cells.length ∧ cells.length ≤ 200)
    (hs : Row w w.heap.size 1 S st.length (st.map (Value.int .i64))) (hsc : st.length ≤ cs) (hs8 : st.length ≤ 8) (hsk : ∀ x ∈ st, 1 ≤ x ∧ x ≤ 6) (hf : funcs ≤ 2) (hat : at_ < 100) (hp : SpotsAt w w.heap.size P sp) (hpc : sp.length ≤ cp) (hpl : sp.length ≤ 100) (hpa : ∀ x ∈ sp, x.1 < 200 ∧ x.2.length ≤ 8) (h16 : n % 16 = 15) :
    Calls Tryd.prog 48 #[.slice A cells.length c, .int .i64 n, .slice S st.length cs, .int .i64 funcs, .int .i64 at_, .slice P sp.length cp] w (PickBack w cells st funcs at_ sp) := by
  have W16 := Lib.hid (fun W => show Calls Tryd.prog 35 #[.int .i64 n, .int .i64 16] W (fun e w' => e = .returned (.int .i64 15) ∧ W = w') from by have h := within12_any n 16 (by decide) (by decide) W; rw [h16] at h; exact h)
  have W4 := Lib.hid (fun (a : Int) (W : World) => show Calls Tryd.prog 35 #[.int .i64 a, .int .i64 4] W (fun e w' => ∃ q : Nat, q < 4 ∧ e = .returned (.int .i64 q) ∧ W = w') from within12_nat a 4 (by decide) (by decide) W)
  have W6 := Lib.hid (fun (a : Int) (W : World) => show Calls Tryd.prog 35 #[.int .i64 a, .int .i64 6] W (fun e w' => ∃ q : Nat, q < 6 ∧ e = .returned (.int .i64 q) ∧ W = w') from within12_nat a 6 (by decide) (by decide) W)
  have WL := Lib.hid (fun a W => within12_nat a cells.length hcl.1 (by omega) W)
  obtain ⟨K, hK⟩ : ∃ K, IntKind.i64.wrap (n.tdiv 32) = K := ⟨_, rfl⟩
  obtain ⟨hcl0, hcl1⟩ := hcl
  have hcI : (cells.length : Int) ≤ c := by omega
  have hcl2 : (cells.length : Int) ≤ 200 := by omega
  clear h16 hr hs hp hpa hsk
  have HQ6 := Lib.hid (show ∀ q : Nat, q < 6 → (q : Int) < 6 from fun q h => by omega)
  have HF0 := Lib.hid (show Five (w.alloc (.cells #[.int .i64 0, .int .i64 0, .int .i64 0, .int .i64 0, .int .i64 0] 67)) w.heap.size 0 0 0 0 0 from by constructor <;> go_simp)
  have HB0 := Lib.hid (show Below w.heap.size w (w.alloc (.cells #[.int .i64 0, .int .i64 0, .int .i64 0, .int .i64 0, .int .i64 0] 67)) from (Below.refl _ w).alloc (Nat.le_refl _) _)
  have hlt0 : w.heap.size < (w.alloc (.cells #[.int .i64 0, .int .i64 0, .int .i64 0, .int .i64 0, .int .i64 0] 67)).heap.size := by simp
  go_enter Tryd.func48, Tryd.ntmps48
  go_wp2_with (first | (go_at_call 35; first | ((with_reducible refine (W16.out _).mono ?_); rintro e _ ⟨rfl, rfl⟩)))
  refine bodyPost_ret (v := .agg #[.int .i64 0, .int .i64 0, .int .i64 26, .int .i64 (0), .int .i64 (0)]) ((fun (W : World) (h : Cells5 W w.heap.size 0 0 (26) (0) (0)) => (by obtain ⟨c0, c1, c2, c3, c4⟩ := h; simp [results, Tryd.results48, go_sem, c0, c1, c2, c3, c4] : (results _ _).run _ W = .ok _ W)) _ (by constructor <;> (go_simp; try exact IntWalk.i64_in _ (by omega)))) rfl (pickBack po_now (by repeat (first | (with_reducible exact Below.refl _ _) | (with_reducible exact HB0.out) | (with_reducible refine Below.setCell ?_ (by first | omega | (simp; done) | (simp; omega)) _) | (with_reducible refine Below.drew ?_) | (with_reducible refine below_dN _ ?_) | (with_reducible refine Below.alloc ?_ (by first | omega | (simp; done) | (simp; omega)) _))))
end Go.Proofs.YtngobbbinacomaaDoor
