/- Chapter 14: the environment at the beginning; the variables of chapter 12. -/
import Derived.Test.YtngobbbinacomaaDoorQ03
import Derived.Test.YtngobbbinacomaaDoorQ04
import Derived.Laws.Cells
import Derived.Laws.MakeOwn
namespace Go.Proofs.YtngobbbinacomaaDoor
open Go.RowKit Go.Proofs.YtngobbbinacomaaDoor.c11
set_option linter.unusedVariables false
set_option linter.unusedSimpArgs false
attribute [local go_sem ↓] Go.wp_at_zero Go.wp_at_succ
theorem rcInfo : (Tryd.prog.info? 3).map (fun i => (i.zero, i.size, i.bytes)) = some (some (.int .i64 0), 1, 8) := by kernel_rfl
theorem rcTy : Tryd.prog.underlying 22 = some (.slice 3) := by kernel_rfl
def BeginRel (w : World) (l : List CellD) (out i : Value) (wr : World) : Prop :=
  ∃ k : Nat, i = .int .i64 k ∧ k ≤ l.length ∧ wr.ownsRow w.heap.size 3 1 out k (((l.take k).map CellD.init).map (Value.int .i64)) ∧ Below w.heap.size w wr
set_option maxHeartbeats 8000000 in
set_option maxRecDepth 100000 in
/-- The document's Begin. -/
theorem rbegin_any (A : Option Addr) (n c : Nat) (l : List CellD) (w : World) (hr : Row w w.heap.size 6 A n (cellRow l)) (hn : n ≤ 1000000) (hnl : n = l.length) (hc : n ≤ c) (hcm : c ≤ 9223372036854775807) :
    Calls Tryd.prog 34 #[.slice A n c] w fun e w' => ∃ v, e = .returned v ∧ w'.ownsRow w.heap.size 3 1 v l.length ((l.map CellD.init).map (Value.int .i64)) ∧ Below w.heap.size w w' := by
  subst hnl
  obtain ⟨i0, hi, hz0, hz1, hz2⟩ := info_parts rcInfo
  have t27 := rcTy
  have HR := Lib.hid hr
  have hl' : (l.length : Int) ≤ 1000000 := by omega
  clear hr
  go_enter Tryd.func34, Tryd.ntmps34
  go_wp2_with fail
  go_loopw [3, 4] (fun out i wr => BeginRel w l out i wr) (fun _ i _ => l.length - (intOf i).toNat)
  case atStart => exact ⟨0, rfl, Nat.zero_le _, World.ownsRow_nil _ _ _ _, Below.refl _ _⟩
  case round =>
    obtain ⟨k, rfl, hk, hown, hb⟩ := hrel
    have HOW := Lib.hid hown
    have HB := Lib.hid hb
    have hzw := hb.size
    by_cases hlt : k < l.length
    · have hlt' : (k : Int) < l.length := by omega
      obtain ⟨x, hx⟩ : ∃ x, l[k]? = some x := ⟨_, List.getElem?_eq_getElem hlt⟩
      obtain ⟨b, off, hA, hbl, hcell⟩ := HR.out.2 (by omega)
      have hx3 : wr.cell? ⟨b, off + k * 6 + 3, none⟩ = some (.int .i64 x.init) := by
        have h := hcell (k * 6 + 3) (.int .i64 x.init) ((flat_get cellCells 6 cellCells_length l k 3 x hx (by omega)).trans rfl)
        rw [← Nat.add_assoc] at h
        exact (dcell hb hbl _).trans h
      subst hA
      have HX := Lib.hid hx
      have hbw : b < wr.heap.size := by omega
      clear hown hb hcell hx
      go_wp2_with (at_builtin; refine wpList_append_own _ rfl _ _ 22 rfl w.heap.size 3 i0 _ 1 8 t27 hi hz0 hz1 hz2 rfl (by decide) _ k (((l.take k).map CellD.init).map (Value.int .i64)) rfl (HOW.out.alloc _) ⟨_, 0, none⟩ 1 1 [.int .i64 x.init] rfl ?qa1 ?qa2 ?qa3 ?qa4 ?qa5 ?qa6 ?_)
      case qa1 => rfl
      case qa2 =>
        intro i u hj
        rw [Addr.add_lit]
        cases i with
        | succ i => simp at hj
        | zero => simp at hj; subst hj; go_simp
      case qa3 => intro u hu; simp at hu; subst hu; rfl
      case qa4 => unfold maxLen; omega
      case qa5 => omega
      case qa6 => first | omega | (simp; done) | (simp; omega)
      intro v' w9 hown hgrow hnil
      have HO9 := Lib.hid hown
      have HB9 := Lib.hid (show Below w.heap.size w w9 from (HB.out.alloc hzw _).grown hgrow (by simp; omega) (fun k hk => (HOW.out.lt k hk).1))
      clear hown hgrow hnil
      go_wp2
      go_roundw
      case rel =>
        refine ⟨k + 1, rfl, by omega, ?_, HB9.out⟩
        have h := HO9.out
        rw [List.take_add_one, HX.out]
        simpa using h
      case measure => simp [intOf]; omega
    · have hkl : k = l.length := by omega
      subst hkl
      clear hown hb
      go_wp2
      go_ret
      have h := HOW.out
      rw [List.take_length] at h
      exact ⟨_, rfl, h, HB.out⟩
theorem Syms.moreS {w : World} {B B' : Nat} {A : Option Addr} {n : Nat} {l : List SymD} (h : Syms w B A n l) (hB : B ≤ B') : Syms w B' A n l :=
  ⟨h.len, fun hn => by
    obtain ⟨b, off, e, hlt, hs⟩ := h.at_ hn
    refine ⟨b, off, e, by omega, fun i s hi => ?_⟩
    obtain ⟨Fa, Fc, Ia, Ic, c0, c1, c2, c3, c4, c5, c6, h1, h2, h3, h4, h5⟩ := hs i s hi
    exact ⟨Fa, Fc, Ia, Ic, c0, c1, c2, c3, c4, c5, c6, h1.more hB, h2, h3, h4.more hB, h5⟩, h.ok⟩
theorem heap_at (W : World) (o : Obj) (b : Nat) : (W.alloc o).heap[b]? = if b = W.heap.size then some o else W.heap[b]? := by
  show (W.heap.push o)[b]? = _
  rw [Array.getElem?_push]
theorem heap_topE (W : World) (o : Obj) (b : Nat) (h : b = W.heap.size) : (W.alloc o).heap[b]? = some o := by rw [heap_at, if_pos h]
theorem symAt_lit {v : World} {B b off q : Nat} {s : SymD} {cs : Array Value} {t t' : TypeId} (hb : v.heap[b]? = some (.cells cs t (0, 0))) (hq : v.heap[q]? = some (.cells ((s.init.map (Value.int .i64)).toArray) t' (0, 0))) (hqB : q < B) (hf : s.fields = []) (hl : s.init.length ≤ 9223372036854775807)
    (hc : (cs.toList.drop off).take 7 = [.string s.name, .int .i64 s.kind, .int .i64 s.elem, .int .i64 s.n, .slice none 0 0, .bool s.retain, .slice (some ⟨q, 0, none⟩) s.init.length s.init.length]) : SymAt v B b off s := by
  have hcell : ∀ j u, ([.string s.name, .int .i64 s.kind, .int .i64 s.elem, .int .i64 s.n, .slice none 0 0, .bool s.retain, .slice (some ⟨q, 0, none⟩) s.init.length s.init.length] : List Value)[j]? = some u → v.cell? ⟨b, off + j, none⟩ = some u := fun j u hu => by
    refine (cell_of_row v b _ _ _ (0, 0) hb).trans ?_
    rw [← hc, List.getElem?_take] at hu
    split at hu
    · rw [List.getElem?_drop] at hu
      simpa using hu
    · cases hu
  refine ⟨none, 0, some ⟨q, 0, none⟩, s.init.length, ?_, ?_, ?_, ?_, ?_, ?_, ?_, ?_, ?_, by omega, ⟨by simp, fun _ => ⟨q, 0, rfl, hqB, fun j u hu => ?_⟩⟩, Nat.le_refl _, hl⟩
  · simpa using hcell 0 _ rfl
  · exact hcell 1 _ rfl
  · exact hcell 2 _ rfl
  · exact hcell 3 _ rfl
  · rw [hf]; exact hcell 4 _ rfl
  · exact hcell 5 _ rfl
  · exact hcell 6 _ rfl
  · rw [hf]; exact ⟨rfl, fun h => absurd h (by decide)⟩
  · rw [hf]; exact Nat.le_refl _
  · rw [Nat.zero_add]
    refine (cell_of_row v q _ _ _ (0, 0) hq).trans ?_
    simpa using hu
def sN : SymD := ⟨{ data := #[110] }, 5, 0, 0, [], true, [0]⟩
def sB : SymD := ⟨{ data := #[98] }, 1, 0, 0, [], false, [1]⟩
def sW : SymD := ⟨{ data := #[119] }, 3, 0, 0, [], false, [5]⟩
def sI : SymD := ⟨{ data := #[105] }, 4, 0, 0, [], true, [-3]⟩
def sA3 : SymD := ⟨{ data := #[97] }, 7, 5, 3, [], false, [0, 0, 0]⟩
def sA5 : SymD := ⟨{ data := #[97] }, 7, 5, 5, [], false, [0, 0, 0, 0, 0]⟩
def sT : SymD := ⟨{ data := #[116] }, 9, 0, 0, [], false, [0, 50, 0, 0, 0, 0]⟩
def sC : SymD := ⟨{ data := #[99] }, 10, 0, 0, [], false, [0, 0, 3, 0, 0, 0]⟩
/-- The variables of chapter 12's programs. -/
def symsP (longer : Bool) : List SymD := [sN, sB, sW, sI, if longer then sA5 else sA3, sT, sC]
theorem symsP_ok (longer : Bool) : ∀ s ∈ symsP longer, s.Ok := by
  intro s hs
  cases longer <;> (simp [symsP] at hs; rcases hs with rfl | rfl | rfl | rfl | rfl | rfl | rfl <;> exact ⟨by decide, by decide, (fun f hf => by cases hf), by decide⟩)
theorem symsP_size (longer : Bool) : ∀ s ∈ symsP longer, s.size ≤ 64 := by
  intro s hs
  cases longer <;> (simp [symsP] at hs; rcases hs with rfl | rfl | rfl | rfl | rfl | rfl | rfl <;> decide)
set_option maxRecDepth 100000 in
theorem make_lit (n : Nat) (hn : n ≤ 1000) (w : World) :
    (Instr.makeSlice 22 (.int .i64 n) (.int .i64 n)).run Tryd.prog w = .ok (.slice (some ⟨w.heap.size, 0, none⟩) n n) (w.alloc (.cells (Array.replicate n (.int .i64 0)) 3)) := by
  obtain ⟨i0, hi, hz0, hz1, hz2⟩ := info_parts rcInfo
  have h := run_make (P := Tryd.prog) w 22 3 i0 _ rcTy hi hz0 .i64 .i64 n n (by omega) (by omega) (by rw [hz2]; omega) (by omega)
  rw [h, hz1]
  congr 3
  unfold madeCells
  apply Array.ext
  · simp
  · intro j h1 h2
    simp [Value.cells, Nat.mod_one]
set_option maxHeartbeats 8000000 in
set_option maxRecDepth 100000 in
/-- Chapter 12's variables, as they are made. -/
theorem syms_any (longer : Bool) (w : World) :
    Calls Tryd.prog 30 #[.bool longer] w fun e w' => ∃ b, e = .returned (.slice (some ⟨b, 0, none⟩) 7 7) ∧ Syms w' w'.heap.size (some ⟨b, 0, none⟩) 7 (symsP longer) ∧ Below w.heap.size w w' := by
  cases longer
  · have mk : ∀ W, (Instr.makeSlice 22 (.int .i64 3) (.int .i64 3)).run Tryd.prog W = .ok (.slice (some ⟨W.heap.size, 0, none⟩) 3 3) (W.alloc (.cells #[.int .i64 0, .int .i64 0, .int .i64 0] 3)) := fun W => make_lit 3 (by decide) W
    go_enter Tryd.func30, Tryd.ntmps30
    go_wp2
    go_ret
    refine ⟨_, rfl, ⟨rfl, fun _ => ⟨_, 0, rfl, by simp, fun i s hi => ?_⟩, symsP_ok _⟩, ?_⟩
    rotate_left 1
    · repeat (first | exact Below.refl _ _ | refine Below.alloc ?_ (by first | omega | (simp; done) | (simp; omega)) _)
    have hi7 : i < 7 := by have := (List.getElem?_eq_some_iff.1 hi).1; simpa [symsP] using this
    rcases (show i = 0 ∨ i = 1 ∨ i = 2 ∨ i = 3 ∨ i = 4 ∨ i = 5 ∨ i = 6 by omega) with rfl | rfl | rfl | rfl | rfl | rfl | rfl
    · simp [symsP] at hi; subst hi; exact symAt_lit (q := w.heap.size) (t' := 3) (heap_topE _ _ _ (by simp)) ((Below.heap_alloc _ _ _ (by simp; try omega)).trans ((Below.heap_alloc _ _ _ (by simp; try omega)).trans ((Below.heap_alloc _ _ _ (by simp; try omega)).trans ((Below.heap_alloc _ _ _ (by simp; try omega)).trans ((Below.heap_alloc _ _ _ (by simp; try omega)).trans ((Below.heap_alloc _ _ _ (by simp; try omega)).trans ((Below.heap_alloc _ _ _ (by simp; try omega)).trans (heap_topE _ _ _ (by simp))))))))) (by simp; try omega) rfl (by decide) rfl
    · simp [symsP] at hi; subst hi; exact symAt_lit (q := w.heap.size + 1) (t' := 3) (heap_topE _ _ _ (by simp)) ((Below.heap_alloc _ _ _ (by simp; try omega)).trans ((Below.heap_alloc _ _ _ (by simp; try omega)).trans ((Below.heap_alloc _ _ _ (by simp; try omega)).trans ((Below.heap_alloc _ _ _ (by simp; try omega)).trans ((Below.heap_alloc _ _ _ (by simp; try omega)).trans ((Below.heap_alloc _ _ _ (by simp; try omega)).trans (heap_topE _ _ _ (by simp)))))))) (by simp; try omega) rfl (by decide) rfl
    · simp [symsP] at hi; subst hi; exact symAt_lit (q := w.heap.size + 1 + 1) (t' := 3) (heap_topE _ _ _ (by simp)) ((Below.heap_alloc _ _ _ (by simp; try omega)).trans ((Below.heap_alloc _ _ _ (by simp; try omega)).trans ((Below.heap_alloc _ _ _ (by simp; try omega)).trans ((Below.heap_alloc _ _ _ (by simp; try omega)).trans ((Below.heap_alloc _ _ _ (by simp; try omega)).trans (heap_topE _ _ _ (by simp))))))) (by simp; try omega) rfl (by decide) rfl
    · simp [symsP] at hi; subst hi; exact symAt_lit (q := w.heap.size + 1 + 1 + 1) (t' := 3) (heap_topE _ _ _ (by simp)) ((Below.heap_alloc _ _ _ (by simp; try omega)).trans ((Below.heap_alloc _ _ _ (by simp; try omega)).trans ((Below.heap_alloc _ _ _ (by simp; try omega)).trans ((Below.heap_alloc _ _ _ (by simp; try omega)).trans (heap_topE _ _ _ (by simp)))))) (by simp; try omega) rfl (by decide) rfl
    · simp [symsP] at hi; subst hi; exact symAt_lit (q := w.heap.size + 1 + 1 + 1 + 1) (t' := 3) (heap_topE _ _ _ (by simp)) ((Below.heap_alloc _ _ _ (by simp; try omega)).trans ((Below.heap_alloc _ _ _ (by simp; try omega)).trans ((Below.heap_alloc _ _ _ (by simp; try omega)).trans (heap_topE _ _ _ (by simp))))) (by simp; try omega) rfl (by decide) rfl
    · simp [symsP] at hi; subst hi; exact symAt_lit (q := w.heap.size + 1 + 1 + 1 + 1 + 1) (t' := 3) (heap_topE _ _ _ (by simp)) ((Below.heap_alloc _ _ _ (by simp; try omega)).trans ((Below.heap_alloc _ _ _ (by simp; try omega)).trans (heap_topE _ _ _ (by simp)))) (by simp; try omega) rfl (by decide) rfl
    · simp [symsP] at hi; subst hi; exact symAt_lit (q := w.heap.size + 1 + 1 + 1 + 1 + 1 + 1) (t' := 3) (heap_topE _ _ _ (by simp)) ((Below.heap_alloc _ _ _ (by simp; try omega)).trans (heap_topE _ _ _ (by simp))) (by simp; try omega) rfl (by decide) rfl
  · have mk : ∀ W, (Instr.makeSlice 22 (.int .i64 5) (.int .i64 5)).run Tryd.prog W = .ok (.slice (some ⟨W.heap.size, 0, none⟩) 5 5) (W.alloc (.cells #[.int .i64 0, .int .i64 0, .int .i64 0, .int .i64 0, .int .i64 0] 3)) := fun W => make_lit 5 (by decide) W
    go_enter Tryd.func30, Tryd.ntmps30
    go_wp2
    go_ret
    refine ⟨_, rfl, ⟨rfl, fun _ => ⟨_, 0, rfl, by simp, fun i s hi => ?_⟩, symsP_ok _⟩, ?_⟩
    rotate_left 1
    · repeat (first | exact Below.refl _ _ | refine Below.alloc ?_ (by first | omega | (simp; done) | (simp; omega)) _)
    have hi7 : i < 7 := by have := (List.getElem?_eq_some_iff.1 hi).1; simpa [symsP] using this
    rcases (show i = 0 ∨ i = 1 ∨ i = 2 ∨ i = 3 ∨ i = 4 ∨ i = 5 ∨ i = 6 by omega) with rfl | rfl | rfl | rfl | rfl | rfl | rfl
    · simp [symsP] at hi; subst hi; exact symAt_lit (q := w.heap.size) (t' := 3) (heap_topE _ _ _ (by simp)) ((Below.heap_alloc _ _ _ (by simp; try omega)).trans ((Below.heap_alloc _ _ _ (by simp; try omega)).trans ((Below.heap_alloc _ _ _ (by simp; try omega)).trans ((Below.heap_alloc _ _ _ (by simp; try omega)).trans ((Below.heap_alloc _ _ _ (by simp; try omega)).trans ((Below.heap_alloc _ _ _ (by simp; try omega)).trans ((Below.heap_alloc _ _ _ (by simp; try omega)).trans (heap_topE _ _ _ (by simp))))))))) (by simp; try omega) rfl (by decide) rfl
    · simp [symsP] at hi; subst hi; exact symAt_lit (q := w.heap.size + 1) (t' := 3) (heap_topE _ _ _ (by simp)) ((Below.heap_alloc _ _ _ (by simp; try omega)).trans ((Below.heap_alloc _ _ _ (by simp; try omega)).trans ((Below.heap_alloc _ _ _ (by simp; try omega)).trans ((Below.heap_alloc _ _ _ (by simp; try omega)).trans ((Below.heap_alloc _ _ _ (by simp; try omega)).trans ((Below.heap_alloc _ _ _ (by simp; try omega)).trans (heap_topE _ _ _ (by simp)))))))) (by simp; try omega) rfl (by decide) rfl
    · simp [symsP] at hi; subst hi; exact symAt_lit (q := w.heap.size + 1 + 1) (t' := 3) (heap_topE _ _ _ (by simp)) ((Below.heap_alloc _ _ _ (by simp; try omega)).trans ((Below.heap_alloc _ _ _ (by simp; try omega)).trans ((Below.heap_alloc _ _ _ (by simp; try omega)).trans ((Below.heap_alloc _ _ _ (by simp; try omega)).trans ((Below.heap_alloc _ _ _ (by simp; try omega)).trans (heap_topE _ _ _ (by simp))))))) (by simp; try omega) rfl (by decide) rfl
    · simp [symsP] at hi; subst hi; exact symAt_lit (q := w.heap.size + 1 + 1 + 1) (t' := 3) (heap_topE _ _ _ (by simp)) ((Below.heap_alloc _ _ _ (by simp; try omega)).trans ((Below.heap_alloc _ _ _ (by simp; try omega)).trans ((Below.heap_alloc _ _ _ (by simp; try omega)).trans ((Below.heap_alloc _ _ _ (by simp; try omega)).trans (heap_topE _ _ _ (by simp)))))) (by simp; try omega) rfl (by decide) rfl
    · simp [symsP] at hi; subst hi; exact symAt_lit (q := w.heap.size + 1 + 1 + 1 + 1) (t' := 3) (heap_topE _ _ _ (by simp)) ((Below.heap_alloc _ _ _ (by simp; try omega)).trans ((Below.heap_alloc _ _ _ (by simp; try omega)).trans ((Below.heap_alloc _ _ _ (by simp; try omega)).trans (heap_topE _ _ _ (by simp))))) (by simp; try omega) rfl (by decide) rfl
    · simp [symsP] at hi; subst hi; exact symAt_lit (q := w.heap.size + 1 + 1 + 1 + 1 + 1) (t' := 3) (heap_topE _ _ _ (by simp)) ((Below.heap_alloc _ _ _ (by simp; try omega)).trans ((Below.heap_alloc _ _ _ (by simp; try omega)).trans (heap_topE _ _ _ (by simp)))) (by simp; try omega) rfl (by decide) rfl
    · simp [symsP] at hi; subst hi; exact symAt_lit (q := w.heap.size + 1 + 1 + 1 + 1 + 1 + 1) (t' := 3) (heap_topE _ _ _ (by simp)) ((Below.heap_alloc _ _ _ (by simp; try omega)).trans (heap_topE _ _ _ (by simp))) (by simp; try omega) rfl (by decide) rfl
end Go.Proofs.YtngobbbinacomaaDoor
