/- The document's chapter 12: Func, where there is a certificate. -/
import Derived.Test.YtngobbbinacomaaDoorRI14
import Derived.Test.YtngobbbinacomaaDoorRHB8
import Derived.Laws.MakeOwn
namespace Go.Proofs.YtngobbbinacomaaDoor
open Go.RowKit Go.Proofs.YtngobbbinacomaaDoor.c11 Go.Proofs.YtngobbbinacomaaDoor.c10
set_option linter.unusedVariables false
set_option linter.unusedSimpArgs false
attribute [local go_sem ↓] Go.wp_at_zero Go.wp_at_succ

theorem boolInfo : (Tryd.prog.info? 4).map (fun i => (i.zero, i.size, i.bytes)) = some (some (.bool false), 1, 1) := by kernel_rfl
theorem boolsTy : Tryd.prog.underlying 119 = some (.slice 4) := by kernel_rfl
theorem intsInfo : (Tryd.prog.info? 22).map (fun i => (i.zero, i.size, i.bytes)) = some (some (.slice none 0 0), 1, 24) := by kernel_rfl
theorem intssTy : Tryd.prog.underlying 120 = some (.slice 22) := by kernel_rfl
set_option maxRecDepth 100000 in
theorem make_bools (n : Nat) (hn : n ≤ 1000) (w : World) :
    (Instr.makeSlice 119 (.int .i64 n) (.int .i64 n)).run Tryd.prog w = .ok (.slice (some ⟨w.heap.size, 0, none⟩) n n) (w.alloc (.cells (Array.replicate n (.bool false)) 4)) := by
  obtain ⟨i0, hi, hz0, hz1, hz2⟩ := info_parts boolInfo
  have h := run_make (P := Tryd.prog) w 119 4 i0 _ boolsTy hi hz0 .i64 .i64 n n (by omega) (by omega) (by rw [hz2]; omega) (by omega)
  rw [h, hz1]
  congr 3
  unfold madeCells
  apply Array.ext
  · simp
  · intro j h1 h2
    simp [Value.cells, Nat.mod_one]
set_option maxRecDepth 100000 in
theorem make_stacks (n : Nat) (hn : n ≤ 1000) (w : World) :
    (Instr.makeSlice 120 (.int .i64 n) (.int .i64 n)).run Tryd.prog w = .ok (.slice (some ⟨w.heap.size, 0, none⟩) n n) (w.alloc (.cells (Array.replicate n (.slice none 0 0)) 22)) := by
  obtain ⟨i0, hi, hz0, hz1, hz2⟩ := info_parts intsInfo
  have h := run_make (P := Tryd.prog) w 120 22 i0 _ intssTy hi hz0 .i64 .i64 n n (by omega) (by omega) (by rw [hz2]; omega) (by omega)
  rw [h, hz1]
  congr 3
  unfold madeCells
  apply Array.ext
  · simp
  · intro j h1 h2
    simp [Value.cells, Nat.mod_one]

theorem Row.came {w : World} {A : Option Addr} {cap : Nat} {b : List Int} (h : Row w w.heap.size 1 A b.length (b.map (Value.int .u8))) (hc : b.length ≤ cap) (hm : cap ≤ 9223372036854775807) : Came w A b.length cap fun i => .int .u8 (b.getD i 0) := by
  refine ⟨hc, hm, fun h0 => ?_⟩
  obtain ⟨x, off, hA, hX, hc⟩ := h.2 h0
  refine ⟨x, off, hA, hX, fun i hi => ?_⟩
  exact hc i _ (by simp [List.getD_eq_getElem?_getD, List.getElem?_eq_getElem hi])

/-- At the beginning: the first one is known, its stack is empty. -/
theorem finv_start {w4 : World} {n : Nat} {T : List (Option (List Int))} {t1 t2 t3 : TypeId} (kb : Nat) (hn : 0 < n) (hT : T[0]? = some (some []))
    (hk : w4.heap[kb]? = some (.cells ((Array.replicate n (.bool false)).setIfInBounds 0 (.bool true)) t1 (0, 0))) (hd : w4.heap[kb + 1]? = some (.cells (Array.replicate n (.bool false)) t2 (0, 0))) (hv : w4.heap[kb + 1 + 1]? = some (.cells (Array.replicate n (.slice none 0 0)) t3 (0, 0))) (hlt : kb + 2 < w4.heap.size) :
    FInv kb (kb + 1) (kb + 1 + 1) n T ((List.replicate n false).set 0 true) (List.replicate n false) (List.replicate n (.slice none 0 0)) w4 := by
  have ck := fun j => cell_of_row w4 kb j _ _ (0, 0) hk
  have cd := fun j => cell_of_row w4 (kb + 1) j _ _ (0, 0) hd
  have cv := fun j => cell_of_row w4 (kb + 1 + 1) j _ _ (0, 0) hv
  have fk := fun j => frozen_of_row w4 kb j _ _ hk
  have fd := fun j => frozen_of_row w4 (kb + 1) j _ _ hd
  have fv := fun j => frozen_of_row w4 (kb + 1 + 1) j _ _ hv
  refine ⟨by simp, by simp, by simp, fun j x hx => ⟨(ck j).trans ?_, fk j⟩, fun j x hx => ⟨(cd j).trans ?_, fd j⟩, fun j x hx => ⟨(cv j).trans ?_, fv j⟩, fun j hj => ?_, by omega, by omega⟩
  · have hjn : j < n := by have := (List.getElem?_eq_some_iff.1 hx).1; simpa using this
    rw [List.getElem?_set] at hx
    by_cases h0 : 0 = j
    · subst h0
      rw [if_pos rfl, if_pos (by simpa using hn)] at hx
      injection hx with hx
      subst hx
      simp [hn]
    · rw [if_neg h0] at hx
      have hxf : x = false := by simpa [hjn] using hx.symm
      subst hxf
      rw [Array.getElem?_setIfInBounds, if_neg h0]
      simp [hjn]
  · have hjn : j < n := by have := (List.getElem?_eq_some_iff.1 hx).1; simpa using this
    have hxf : x = false := by simpa [hjn] using hx.symm
    subst hxf
    simp [hjn]
  · have hjn : j < n := by have := (List.getElem?_eq_some_iff.1 hx).1; simpa using this
    have hxf : x = .slice none 0 0 := by simpa [hjn] using hx.symm
    subst hxf
    simp [hjn]
  · by_cases h0 : 0 = j
    · subst h0
      exact ⟨[], none, 0, hT, by simp [hn], Nat.le_refl _, by omega, ⟨rfl, fun h => absurd h (by decide)⟩⟩
    · rw [List.getElem?_set, if_neg h0] at hj
      have hjn : j < n := by have := (List.getElem?_eq_some_iff.1 hj).1; simpa using this
      simp [hjn] at hj

/-- How many are not done. -/
def undone (w : World) (db n : Nat) : Nat := ((List.range n).map fun j => match w.cell? ⟨db, j, none⟩ with | some (.bool x) => x | _ => true).count false
theorem FInv.undone {kb db tb n : Nat} {T : List (Option (List Int))} {K D : List Bool} {V : List Value} {w : World} (h : FInv kb db tb n T K D V w) : undone w db n = D.count false := by
  unfold Go.Proofs.YtngobbbinacomaaDoor.undone
  congr 1
  apply List.ext_getElem?
  intro j
  by_cases hj : j < n
  · obtain ⟨x, hx⟩ : ∃ x, D[j]? = some x := ⟨_, List.getElem?_eq_getElem (by rw [h.dl]; exact hj)⟩
    rw [List.getElem?_map, List.getElem?_range hj, hx]
    simp [(h.dc j x hx).1]
  · rw [List.getElem?_eq_none (by simp; omega), List.getElem?_eq_none (by rw [h.dl]; omega)]

/-- But for two blocks all is as it was. -/
structure Off (kb tb : Nat) (w w' : World) : Prop where
  os : w'.os = w.os
  tape : w'.tape = w.tape
  output : w'.output = w.output
  size : w.heap.size ≤ w'.heap.size
  block : ∀ b, b < w.heap.size → b ≠ kb → b ≠ tb → w'.heap[b]? = w.heap[b]?
theorem Off.refl (kb tb : Nat) (w : World) : Off kb tb w w := ⟨rfl, rfl, rfl, Nat.le_refl _, fun _ _ _ _ => rfl⟩
theorem Off.below {kb tb : Nat} {w w1 w2 : World} (h : Off kb tb w w1) (hb : Below w1.heap.size w1 w2) : Off kb tb w w2 :=
  ⟨hb.os.trans h.os, hb.tape.trans h.tape, hb.output.trans h.output, Nat.le_trans h.size hb.size, fun b hl h1 h2 => (hb.block b (Nat.lt_of_lt_of_le hl h.size)).trans (h.block b hl h1 h2)⟩
theorem Off.set {kb tb : Nat} {w w1 : World} (h : Off kb tb w w1) (p : Addr) (hp : p.block = kb ∨ p.block = tb) (v : Value) : Off kb tb w (w1.setCell p v) :=
  ⟨h.os, h.tape, h.output, by simpa [World.setCell] using h.size, fun b hl h1 h2 => (Below.heap_setCell w1 p v b (by rcases hp with hp | hp <;> omega)).trans (h.block b hl h1 h2)⟩
theorem Off.to {kb tb B : Nat} {w0 w w1 : World} (h : Off kb tb w w1) (hb : Below B w0 w) (hB : B ≤ kb ∧ B ≤ tb) (hB0 : B ≤ w.heap.size) : Below B w0 w1 :=
  ⟨h.os.trans hb.os, h.tape.trans hb.tape, h.output.trans hb.output, Nat.le_trans hb.size h.size, fun b hl => (h.block b (by omega) (by omega) (by omega)).trans (hb.block b hl)⟩

set_option maxHeartbeats 4000000 in
set_option maxRecDepth 100000 in
/-- Where an instruction goes on: a row of its own. -/
theorem rnext_x (a0 nx s a n : Int) (w : World) :
    Calls Tryd.prog 65 #[.agg #[.int .i64 a0, .int .i64 nx, .int .i64 s, .int .i64 a, .int .i64 n]] w fun e w' => (∃ R c, e = .returned (.slice R (nextP s a nx).length c) ∧ RowX w' (fun b => w.heap.size ≤ b ∧ b < w'.heap.size) 1 R (nextP s a nx).length ((nextP s a nx).map (Value.int .i64))) ∧ Below w.heap.size w w' := by
  by_cases h0 : s = 0
  · subst h0
    go_enter Tryd.func65, Tryd.ntmps65
    go_wp2
    go_ret
    exact ⟨⟨none, 0, rfl, ⟨rfl, fun h => by simp [nextP] at h⟩⟩, (Below.refl _ w).alloc (Nat.le_refl _) _⟩
  by_cases h18 : s = 18
  · subst h18
    go_enter Tryd.func65, Tryd.ntmps65
    go_wp2
    go_ret
    refine ⟨⟨_, 1, rfl, ⟨rfl, fun _ => ⟨_, 0, rfl, by simp, fun j u hu => ?_⟩⟩⟩, ((Below.refl _ w).alloc (Nat.le_refl _) _).alloc (by simp) _⟩
    cases j with
    | succ j => simp [nextP] at hu
    | zero => simp [nextP] at hu; subst hu; go_simp
  by_cases h19 : s = 19
  · subst h19
    go_enter Tryd.func65, Tryd.ntmps65
    go_wp2
    go_ret
    refine ⟨⟨_, 2, rfl, ⟨rfl, fun _ => ⟨_, 0, rfl, by simp, fun j u hu => ?_⟩⟩⟩, ((Below.refl _ w).alloc (Nat.le_refl _) _).alloc (by simp) _⟩
    have hj : j < 2 := by have := (List.getElem?_eq_some_iff.1 hu).1; simpa [nextP] using this
    rcases (show j = 0 ∨ j = 1 by omega) with rfl | rfl <;> (simp [nextP] at hu; subst hu; go_simp)
  · have n0 : (s == 0) = false := by simpa using h0
    have n18 : (s == 18) = false := by simpa using h18
    have n19 : (s == 19) = false := by simpa using h19
    have HN := Lib.hid (show nextP s a nx = [nx] by simp [nextP, h0, h18, h19])
    clear h0 h18 h19
    go_enter Tryd.func65, Tryd.ntmps65
    go_wp2
    go_ret
    rw [HN.out]
    refine ⟨⟨_, 1, rfl, ⟨rfl, fun _ => ⟨_, 0, rfl, by simp, fun j u hu => ?_⟩⟩⟩, ((Below.refl _ w).alloc (Nat.le_refl _) _).alloc (by simp) _⟩
    cases j with
    | succ j => simp at hu
    | zero => simp at hu; subst hu; go_simp

/-- What the ways from one instruction hold. -/
def WaysRel (w5 w9 : World) (kb db tb n : Nat) (T : List (Option (List Int))) (D : List Bool) (top : Nat) (j : Value) (wr : World) : Prop :=
  ∃ (q : Nat) (K : List Bool) (V : List Value), j = .int .i64 q ∧ q ≤ top ∧ FInv kb db tb n T K D V wr ∧ Off kb tb w9 wr

def MainRel (w : World) (kb db tb n : Nat) (T : List (Option (List Int))) (high i : Value) (wr : World) : Prop :=
  ∃ (j : Nat) (hi : Int) (K D : List Bool) (V : List Value), i = .int .i64 j ∧ j ≤ n ∧ high = .int .i64 hi ∧ 0 ≤ hi ∧ hi ≤ 8 ∧ FInv kb db tb n T K D V wr ∧ Below kb w wr

set_option maxHeartbeats 8000000 in
set_option maxRecDepth 100000 in
theorem rfunc_ok (SA : Option Addr) (SC : Nat) (l : List SymD) (Ca : Option Addr) (Cc : Nat) (consts : List Int) (Fa : Option Addr) (Fc : Nat) (funcs : List (List Int)) (Fv : Nat → Option Addr) (Fl : Nat → Nat) (w : World)
    (h : ImgAt w SA SC l Ca Cc consts Fa Fc funcs Fv Fl) (hln : l.length ≤ 12) (hlz : ∀ s ∈ l, s.size ≤ 64) (k : Nat) (b : List Int) (hk : funcs[k]? = some b) (hb : b.length ≤ 120) (hR : (opsL b).2 = 0) (T : List (Option (List Int))) (hc : Cert consts.length funcs.length (cellsOf l) (opsL b).1 T) :
    Calls Tryd.prog 45 #[.agg #[.slice SA l.length SC, .slice Ca consts.length Cc, .slice Fa funcs.length Fc], .int .i64 k] w fun e w' => (∃ hi : Int, e = .returned (.tuple #[.int .i64 hi, .int .i64 0])) ∧ Below w.heap.size w w' := by
  have H := Lib.hid h
  have HC := Lib.hid hc
  have hkl : k < funcs.length := (List.getElem?_eq_some_iff.1 hk).1
  obtain ⟨hcr, hcl, hcm, hcb⟩ := h.code k b hk
  obtain ⟨cb, co, hFa, hcbl, hcc⟩ := h.rf.2 (by omega)
  have fk : w.cell? ⟨cb, co + k, none⟩ = some (.slice (Fv k) b.length (Fl k)) := hcc k _ (by rw [List.getElem?_map, List.getElem?_range hkl]; simp [List.getD_eq_getElem?_getD, hk])
  subst hFa
  have hkl' : (k : Int) < funcs.length := by omega
  have hge : decide ((funcs.length : Int) ≤ k) = false := decide_eq_false (by omega)
  have hge' : decide (funcs.length ≤ k) = false := decide_eq_false (by omega)
  have AL := Lib.hid (fun u (hbu : Below w.heap.size w u) => rall_any (Fv k) b.length (Fl k) (fun j => b.getD j 0) u (Row.came ((hcr.below hbu).more hbu.size) hcl hcm) (by omega) (fun i hi => by rw [List.getD_eq_getElem?_getD, List.getElem?_eq_getElem hi]; exact hcb _ (List.getElem_mem hi)))
  have RC := Lib.hid (fun u (hbu : Below w.heap.size w u) => rcells_any SA l.length SC l u ((h.syms.below hbu).moreS hbu.size) (by omega) h.sc.1 h.sc.2 hlz)
  have HRR := Lib.hid hR
  have hLlen := hc.sml
  have hLpos := hc.pos
  have hopsR : opsL b = runL (fun j => b.getD j 0) b.length (b.length + 1) 0 [] := rfl
  rw [← hopsR] at AL
  rw [hR] at AL
  clear hopsR h hc hcr hcl hcm hcb hcc hR hk
  generalize hLdef : (opsL b).1 = L at *
  clear hLdef HRR
  have hLI : (L.length : Int) ≤ 120 := by omega
  have hL0 : ¬ (L.length : Int) = 0 := by omega
  go_enter Tryd.func45, Tryd.ntmps45
  have hBA : Below w.heap.size w (w.alloc (.cells #[.slice SA l.length SC, .slice Ca consts.length Cc, .slice (some ⟨cb, co, none⟩) funcs.length Fc] 29)) := (Below.refl _ w).alloc (Nat.le_refl _) _
  have HBA := Lib.hid hBA
  clear hBA
  go_wp2_with fail
  refine (AL.out _ HBA.out).mono ?_
  rintro e w1 ⟨⟨B, nB, rfl, hrow⟩, hb1⟩
  have HROW := Lib.hid (show Row w1 w1.heap.size 5 B L.length (rowCells L) from ⟨rowCells_length L, fun h0 => by
    obtain ⟨bb, hB, _, hlt, hcl⟩ := hrow h0
    exact ⟨bb, 0, hB, hlt, fun j u hu => by rw [Nat.zero_add]; exact hcl j u hu⟩⟩)
  have k0 : w1.cell? ⟨w.heap.size, 0, none⟩ = some (.slice SA l.length SC) := (dcell hb1 (by simp) 0).trans (by go_simp)
  have k1 : w1.cell? ⟨w.heap.size, 1, none⟩ = some (.slice Ca consts.length Cc) := (dcell hb1 (by simp) 1).trans (by go_simp)
  have k2 : w1.cell? ⟨w.heap.size, 2, none⟩ = some (.slice (some ⟨cb, co, none⟩) funcs.length Fc) := (dcell hb1 (by simp) 2).trans (by go_simp)
  have hsz : w.heap.size < w1.heap.size := by have := hb1.size; simp at this; omega
  have HB1 := Lib.hid (show Below w.heap.size w w1 from HBA.out.trans (hb1.mono (by simp)))
  clear hb1 hrow fk
  have hL0' : ((L.length : Int) == 0) = false := by rw [beq_eq_false_iff_ne]; omega
  go_wp2_with fail
  go_loopw [8] (fun i wr => LoopRel w1 L.length i wr) (fun i _ => L.length - (intOf i).toNat)
  case atStart => exact ⟨0, rfl, Nat.zero_le _, Below.refl _ _⟩
  case round =>
    obtain ⟨j, rfl, hj, hbj⟩ := hrel
    have HBJ := Lib.hid hbj
    by_cases hjl : j < L.length
    · have hjl' : (j : Int) < L.length := by omega
      obtain ⟨o, ho⟩ : ∃ o, L[j]? = some o := ⟨_, List.getElem?_eq_getElem hjl⟩
      obtain ⟨lb, lo, hB, hlb, hlc⟩ := HROW.out.2 (by omega)
      have e2 : wr.cell? ⟨lb, lo + j * 5 + 2, none⟩ = some (.int .i64 o.2.2.1) := by
        have h := hlc (j * 5 + 2) _ ((flat_get opCells 5 (fun _ => rfl) L j 2 o ho (by omega)).trans rfl)
        rw [← Nat.add_assoc] at h
        exact (dcell hbj hlb _).trans h
      have e3 : wr.cell? ⟨lb, lo + j * 5 + 3, none⟩ = some (.int .i64 o.2.2.2.1) := by
        have h := hlc (j * 5 + 3) _ ((flat_get opCells 5 (fun _ => rfl) L j 3 o ho (by omega)).trans rfl)
        rw [← Nat.add_assoc] at h
        exact (dcell hbj hlb _).trans h
      have hjmp := HC.out.jumps o (List.mem_of_getElem? ho)
      have hRR := (HROW.out.below hbj).more hbj.size
      have PL := Lib.hid (fun u (hu : Below wr.heap.size wr u) => rplace_any B nB L o.2.2.2.1 u ((hRR.below hu).more hu.size) (by omega))
      have HJM := Lib.hid hjmp
      clear hbj hlc ho hjmp hRR
      obtain ⟨o1, o2, s, a, n⟩ := o
      simp only at e2 e3 PL HJM
      by_cases hs : s = 18 ∨ s = 19
      · have hp := HJM.out hs
        have hp' : decide (placeF a L 0 < 0) = false := decide_eq_false (by omega)
        generalize placeF a L 0 = pp at *
        subst hB
        rcases hs with rfl | rfl
        all_goals
          go_wp2_with (go_at_call 62; refine (PL.out _ (by repeat (first | exact Below.refl _ _ | refine Below.drew ?_ | refine below_dN _ ?_))).mono ?_; rintro e _ ⟨rfl, rfl⟩)
          go_roundw
          case rel => exact ⟨j + 1, rfl, by omega, HBJ.out⟩
          case measure => simp [intOf]; omega
      · have n18 : (s == 18) = false := by simp; omega
        have n19 : (s == 19) = false := by simp; omega
        clear hs
        subst hB
        go_wp2
        go_roundw
        case rel => exact ⟨j + 1, rfl, by omega, HBJ.out⟩
        case measure => simp [intOf]; omega
    · have hjs : j = L.length := by omega
      subst hjs
      obtain ⟨w2, hw2⟩ : ∃ x : World, x = wr := ⟨_, rfl⟩
      subst hw2
      have hs2 : w.heap.size < w2.heap.size := Nat.lt_of_lt_of_le hsz hbj.size
      have HB2 := Lib.hid (HB1.out.trans (hbj.mono (Nat.le_of_lt hsz)))
      have HROW2 := Lib.hid ((HROW.out.below hbj).more hbj.size)
      have q0 := (dcell hbj hsz 0).trans k0
      have q1 := (dcell hbj hsz 1).trans k1
      have q2 := (dcell hbj hsz 2).trans k2
      clear hbj k0 k1 k2
      go_wp2_with fail
      refine (RC.out _ HB2.out).mono ?_
      rintro e w3 ⟨v3, rfl, ho3, hb3⟩
      obtain ⟨A3, c3, rfl, hc31, hc32⟩ := own_slice ho3
      unfold maxLen at hc32
      have hcr3 := Row.of_own ho3
      have HCR := Lib.hid hcr3
      have k0 := (dcell hb3 hs2 0).trans q0
      have k1 := (dcell hb3 hs2 1).trans q1
      have k2 := (dcell hb3 hs2 2).trans q2
      have hs3 : w.heap.size < w3.heap.size := Nat.lt_of_lt_of_le hs2 hb3.size
      have HB3 := Lib.hid (HB2.out.trans (hb3.mono (Nat.le_of_lt hs2)))
      have HROW3 := Lib.hid ((HROW2.out.below hb3).more hb3.size)
      clear ho3 hb3 hcr3 q0 q1 q2
      have mkb := make_bools L.length (by omega)
      have mks := make_stacks L.length (by omega)
      have hw30 : ¬ w3.heap.size = w3.heap.size + 1 + 1 := by omega
      go_wp2_with fail
      obtain ⟨w5, hw5⟩ : ∃ x : World, x = (((w3.alloc (.cells ((Array.replicate L.length (.bool false)).setIfInBounds 0 (.bool true)) 4)).alloc (.cells (Array.replicate L.length (.bool false)) 4)).alloc (.cells (Array.replicate L.length (.slice none 0 0)) 22)) := ⟨_, rfl⟩
      have hz5 : w5.heap.size = w3.heap.size + 3 := by rw [hw5]; simp
      have hf4 := finv_start (w4 := w5) (n := L.length) (T := T) (t1 := 4) (t2 := 4) (t3 := 22) w3.heap.size hLpos HC.out.start (by rw [hw5]; exact ((Below.heap_alloc _ _ _ (by simp; omega)).trans ((Below.heap_alloc _ _ _ (by simp)).trans (heap_topE _ _ _ rfl)))) (by rw [hw5]; exact ((Below.heap_alloc _ _ _ (by simp)).trans (heap_topE _ _ _ (by simp)))) (by rw [hw5]; exact heap_topE _ _ _ (by simp)) (by omega)
      have HB4 := Lib.hid (show Below w3.heap.size w3 w5 by rw [hw5]; exact ((((Below.refl _ _).alloc (Nat.le_refl _) _).alloc (by simp) _).alloc (by simp; omega) _))
      rw [← hw5]
      clear hw5 mkb mks hw30
      have q0 := (dcell HB4.out hs3 0).trans k0
      have q1 := (dcell HB4.out hs3 1).trans k1
      have q2 := (dcell HB4.out hs3 2).trans k2
      have HROW5 := Lib.hid (HROW3.out.below HB4.out)
      have HCR5 := Lib.hid (HCR.out.below HB4.out)
      have HB5 := Lib.hid (HB3.out.trans (HB4.out.mono (Nat.le_of_lt hs3)))
      have HF5 := Lib.hid hf4
      clear hf4 k0 k1 k2
      obtain ⟨kb, hkb⟩ : ∃ x, x = w3.heap.size := ⟨_, rfl⟩
      have hs5 : w.heap.size < kb := by omega
      rw [← hkb] at HF5 HROW5 HCR5 hz5
      rw [← hkb]
      clear hkb HB4
      go_loopw [13, 14] (fun high i wr => MainRel w5 kb (kb + 1) (kb + 1 + 1) L.length T high i wr) (fun _ i wr => undone wr (kb + 1) L.length * (L.length + 1) + (L.length - (intOf i).toNat))
      case atStart => exact ⟨0, 0, _, _, _, rfl, Nat.zero_le _, rfl, by decide, by decide, HF5.out, Below.refl _ _⟩
      case round =>
        obtain ⟨i, hi, K, D, V, rfl, hil, rfl, hi0, hi8, hF, hbr⟩ := hrel
        have HF := Lib.hid hF
        have HBR := Lib.hid hbr
        by_cases hlt : i < L.length
        · have hlt' : (i : Int) < L.length := by omega
          obtain ⟨kx, hkx⟩ : ∃ x, K[i]? = some x := ⟨_, List.getElem?_eq_getElem (by rw [hF.kl]; exact hlt)⟩
          obtain ⟨dx, hdx⟩ : ∃ x, D[i]? = some x := ⟨_, List.getElem?_eq_getElem (by rw [hF.dl]; exact hlt)⟩
          have ck := (hF.kc i kx hkx).1
          have cd := (hF.dc i dx hdx).1
          have fd := (hF.dc i dx hdx).2
          by_cases hgo : kx = true ∧ dx = false
          · obtain ⟨rfl, rfl⟩ := hgo
            obtain ⟨s, A, c, hT, hV, hsc, hscm, hX⟩ := hF.st i hkx
            have cv := (hF.vc i _ hV).1
            obtain ⟨o, ho⟩ : ∃ o, L[i]? = some o := ⟨_, List.getElem?_eq_getElem hlt⟩
            obtain ⟨hs8, hbe, s', hdo, hnx⟩ := HC.out.step i o s ho hT
            obtain ⟨⟨hby1, hby2⟩, hsg1, hsg2⟩ := HC.out.bytes o (List.mem_of_getElem? ho)
            obtain ⟨lb, lo, hB, hlb, hlc⟩ := HROW5.out.2 (by omega)
            have ecell : ∀ q u, q < 5 → (opCells o)[q]? = some u → w5.cell? ⟨lb, lo + i * 5 + q, none⟩ = some u := fun q u hq hu => by
              have h := hlc (i * 5 + q) u ((flat_get opCells 5 (fun _ => rfl) L i q o ho hq).trans hu)
              rw [← Nat.add_assoc] at h
              exact h
            obtain ⟨oa, on, sg, a, n⟩ := o
            simp only at hby1 hby2 hsg1 hsg2 hbe hdo hnx
            obtain ⟨an, rfl⟩ : ∃ an : Nat, a = an := ⟨a.toNat, by omega⟩
            rw [Int.toNat_natCast] at hbe hdo
            have HE := Lib.hid ecell
            have HFD := Lib.hid (hF.setD i hlt)
            have HDC := Lib.hid (count_set hdx)
            have HUN := Lib.hid hF.undone
            have HDO := Lib.hid hdo
            have HNX := Lib.hid hnx
            have HSX := Lib.hid (And.intro hX (And.intro hsc hscm))
            have HV := Lib.hid hV
            have HTI := Lib.hid hT
            have HKX := Lib.hid hkx
            have HBE := Lib.hid hbe
            have HLT3 := Lib.hid hF.lt
            have HCRR := Lib.hid (fun u (hu : Below kb w5 u) => ((HCR5.out.below hu).more (show kb ≤ u.heap.size by have := hu.size; omega)))
            have BE := Lib.hid (fun u (hu : Below kb w5 u) => rbears_ok SA Ca (some ⟨cb, co, none⟩) A3 l.length SC consts.length Cc funcs.length Fc c3 (cellsOf l) sg n oa on an u (HCRR.out u hu) hc31 hc32 hbe)
            subst hB
            have HBW6 := Lib.hid (show Below kb w5 (wr.setCell ⟨kb + 1, i, none⟩ (.bool true)) from hbr.setCell (by simp) _)
            clear hF hbr hkx hdx hT hV ho hbe hdo hnx hlc ecell hX
            go_upto_region 24 with fail
            obtain ⟨w6, hw6⟩ : ∃ x : World, x = wr.setCell ⟨kb + 1, i, none⟩ (.bool true) := ⟨_, rfl⟩
            have hz6 : w6.heap.size = wr.heap.size := by rw [hw6]; simp
            rw [← hw6] at HFD HBW6
            rw [← hw6]
            clear hw6 ck cd fd cv
            have hlbk : lb < kb := hlb
            have g0 := (dcell HBW6.out hlbk _).trans (HE.out 0 _ (by decide) rfl)
            rw [Nat.add_zero] at g0
            have g1 := (dcell HBW6.out hlbk _).trans (HE.out 1 _ (by decide) rfl)
            have g2 := (dcell HBW6.out hlbk _).trans (HE.out 2 _ (by decide) rfl)
            have g3 := (dcell HBW6.out hlbk _).trans (HE.out 3 _ (by decide) rfl)
            have g4 := (dcell HBW6.out hlbk _).trans (HE.out 4 _ (by decide) rfl)
            have p0 := (dcell HBW6.out hs5 0).trans q0
            have p1 := (dcell HBW6.out hs5 1).trans q1
            have p2 := (dcell HBW6.out hs5 2).trans q2
            go_cut [15] (fun v wx => v = .int .i64 0 ∧ Below w6.heap.size w6 wx)
            case first =>
              go_region_with (go_at_call 63; refine (BE.out _ (by repeat (first | exact HBW6.out | refine Below.drew ?_ | refine below_dN _ ?_))).mono ?_; rintro e w7 ⟨rfl, hb7⟩; have HB7 := Lib.hid (show Below w6.heap.size w6 w7 from ⟨hb7.os, hb7.tape, hb7.output, hb7.size, hb7.block⟩); clear hb7)
              all_goals (try go_wp2_with fail)
              all_goals go_meet
              all_goals exact ⟨rfl, by repeat (first | exact HB7.out | refine Below.drew ?_ | refine below_dN _ ?_)⟩
            case rest =>
            obtain ⟨rfl, hb7⟩ := hcut
            generalize hwc7 : wc = w7 at *
            have HF7 := Lib.hid (HFD.out.below hb7)
            have HB67 := Lib.hid hb7
            have HBW7 := Lib.hid (HBW6.out.trans (hb7.mono (show kb ≤ w6.heap.size by have := HFD.out.lt.1; omega)))
            have hkb7 : kb < w7.heap.size := HF7.out.lt.1
            clear hb7 hwc7 g0 g1 g2 g3 g4 p0 p1 p2
            obtain ⟨s2, A2, c2, hT2, hV2, hsc2, hscm2, hX2⟩ := HF7.out.st i HKX.out
            obtain rfl : s = s2 := by have h := HTI.out.symm.trans hT2; simpa using h
            have DO := Lib.hid (fun u (hu : Below w7.heap.size w7 u) => rdoes_ok A3 c3 (cellsOf l) n oa on an u (HCRR.out u (HBW7.out.trans (hu.mono (Nat.le_of_lt hkb7)))) A2 c2 s s' sg consts.length funcs.length HBE.out hsg1 hsg2 ((((RowX.row hX2 (fun b hb => hb.1)).below hu).more hu.size)) hsc2 hs8 HDO.out)
            have HX2 := Lib.hid hX2
            have cv7 := (HF7.out.vc i _ hV2).1
            have g0 := (dcell HBW7.out hlbk _).trans (HE.out 0 _ (by decide) rfl)
            rw [Nat.add_zero] at g0
            have g1 := (dcell HBW7.out hlbk _).trans (HE.out 1 _ (by decide) rfl)
            have g2 := (dcell HBW7.out hlbk _).trans (HE.out 2 _ (by decide) rfl)
            have g3 := (dcell HBW7.out hlbk _).trans (HE.out 3 _ (by decide) rfl)
            have g4 := (dcell HBW7.out hlbk _).trans (HE.out 4 _ (by decide) rfl)
            clear hT2 hV2 hX2
            go_upto_region 27 with fail
            go_cut [15, 16] (fun e v wx => e = .int .i64 0 ∧ ∃ R c', v = .slice R s'.length c' ∧ s'.length ≤ c' ∧ c' ≤ 9223372036854775807 ∧ wx.ownsRow w7.heap.size 3 1 (.slice R s'.length c') s'.length (s'.map (Value.int .i64)) ∧ Below w7.heap.size w7 wx)
            case first =>
              go_region_with (go_at_call 64; refine (DO.out _ (by repeat (first | exact Below.refl _ _ | refine Below.drew ?_ | refine below_dN _ ?_))).mono ?_; rintro e w8 ⟨R8, c8, rfl, hc81, hc82, ho8, hb8⟩; have HO8 := Lib.hid (show w8.ownsRow w7.heap.size 3 1 (.slice R8 s'.length c8) s'.length (s'.map (Value.int .i64)) from ho8); have HB8 := Lib.hid (show Below w7.heap.size w7 w8 from ⟨hb8.os, hb8.tape, hb8.output, hb8.size, hb8.block⟩); clear hb8 ho8)
              all_goals (try go_wp2_with fail)
              all_goals go_meet
              all_goals exact ⟨rfl, R8, c8, rfl, hc81, hc82, HO8.out, HB8.out⟩
            case rest =>
            obtain ⟨rfl, R8, c8, rfl, hc81, hc82, ho8, hb8⟩ := hcut
            generalize hwc8 : wc = w8 at *
            have HF8 := Lib.hid (HF7.out.below hb8)
            have HBW8 := Lib.hid (HBW7.out.trans (hb8.mono (Nat.le_of_lt hkb7)))
            have hkb8 : kb < w8.heap.size := HF8.out.lt.1
            have hX8 : RowX w8 (fun b => b < w8.heap.size ∧ b ≠ kb ∧ b ≠ kb + 1 ∧ b ≠ kb + 1 + 1) 1 R8 s'.length (s'.map (Value.int .i64)) := by
              obtain ⟨hl3, hl4, hl5⟩ := HF7.out.lt
              refine ⟨by simp, fun h0 => ?_⟩
              obtain ⟨g, cap, hv, _, _⟩ := ho8.form h0
              have hR : R8 = some ⟨g, 0, none⟩ := by injection hv
              subst hR
              have hlt8 := ho8.lt g rfl
              exact ⟨g, 0, rfl, ⟨hlt8.2, by omega, by omega, by omega⟩, fun j u hu => by
                have h := ho8.cells (g := g) rfl j u hu
                rw [Addr.add_lit] at h
                exact h⟩
            have HX8 := Lib.hid hX8
            obtain ⟨s3, A4, c4, hT3, hV3, _, _, _⟩ := HF8.out.st i HKX.out
            obtain rfl : s = s3 := by have h := HTI.out.symm.trans hT3; simpa using h
            have cv8 := (HF8.out.vc i _ hV3).1
            have hs'8 : s'.length ≤ 8 := by
              have h := HDO.out
              unfold doesP at h
              obtain ⟨o', _, hl⟩ := Option.bind_eq_some_iff.1 h
              by_cases h8 : o'.length ≤ 8
              · rw [if_pos h8] at hl; obtain rfl := Option.some.inj hl; exact h8
              · rw [if_neg h8] at hl; cases hl
            have hB8w := hb8.size
            clear hb8 hwc8 ho8 hX8 hT3 hV3 g0 g1 g2 g3 g4 cv7
            have g0 := (dcell HBW8.out hlbk _).trans (HE.out 0 _ (by decide) rfl)
            rw [Nat.add_zero] at g0
            have g1 := (dcell HBW8.out hlbk _).trans (HE.out 1 _ (by decide) rfl)
            have g2 := (dcell HBW8.out hlbk _).trans (HE.out 2 _ (by decide) rfl)
            have g3 := (dcell HBW8.out hlbk _).trans (HE.out 3 _ (by decide) rfl)
            have g4 := (dcell HBW8.out hlbk _).trans (HE.out 4 _ (by decide) rfl)
            go_upto_region 30 with fail
            go_cut [13] (fun v wx => (∃ h2 : Int, v = .int .i64 h2 ∧ 0 ≤ h2 ∧ h2 ≤ 8) ∧ Below w8.heap.size w8 wx)
            case first =>
              go_wp2_with fail
              all_goals (try go_region)
              all_goals (try go_wp2_with fail)
              all_goals go_meet
              all_goals refine ⟨⟨_, rfl, by omega, by omega⟩, by repeat (first | exact Below.refl _ _ | refine Below.drew ?_ | refine below_dN _ ?_)⟩
            case rest =>
            obtain ⟨⟨h2, rfl, hh0, hh8⟩, hb8'⟩ := hcut
            generalize hwc9 : wc = w8' at *
            have HF8' := Lib.hid (HF8.out.below hb8')
            have HBW8' := Lib.hid (HBW8.out.trans (hb8'.mono (Nat.le_of_lt hkb8)))
            have HX8' := Lib.hid (show RowX w8' (fun b => b < w8'.heap.size ∧ b ≠ kb ∧ b ≠ kb + 1 ∧ b ≠ kb + 1 + 1) 1 R8 s'.length (s'.map (Value.int .i64)) from (HX8.out.keep fun b hX => hb8'.block b hX.1).monoX fun b hX => ⟨Nat.lt_of_lt_of_le hX.1 hb8'.size, hX.2⟩)
            have f0 := (dcell hb8' (show lb < w8.heap.size by omega) _).trans g0
            have f1 := (dcell hb8' (show lb < w8.heap.size by omega) _).trans g1
            have f2 := (dcell hb8' (show lb < w8.heap.size by omega) _).trans g2
            have f3 := (dcell hb8' (show lb < w8.heap.size by omega) _).trans g3
            have f4 := (dcell hb8' (show lb < w8.heap.size by omega) _).trans g4
            clear hb8' hwc9 g0 g1 g2 g3 g4 cv8
            have NXT := Lib.hid (fun u => rnext_x oa on sg an n u)
            have hnl2 : (nextP sg an on).length ≤ 2 := by unfold nextP; split; decide; split; exact Nat.le_succ _; split; exact Nat.le_refl _; exact Nat.le_succ _
            go_upto_region 32 with (go_at_call 65; refine (NXT.out _).mono ?_; rintro e w9 ⟨⟨R9, c9, rfl, hx9⟩, hb9⟩; have HX9 := Lib.hid hx9; have HB9 := Lib.hid hb9; clear hx9 hb9)
            have HF9 := Lib.hid (HF8'.out.below HB9.out)
            have hkb8' := HF8'.out.lt
            have HBW9 := Lib.hid (HBW8'.out.trans (HB9.out.mono (Nat.le_of_lt hkb8'.1)))
            have HXS := Lib.hid (show RowX w9 (fun b => b < w9.heap.size ∧ b ≠ kb ∧ b ≠ kb + 1 ∧ b ≠ kb + 1 + 1) 1 R8 s'.length (s'.map (Value.int .i64)) from (HX8'.out.keep fun b hX => HB9.out.block b hX.1).monoX fun b hX => ⟨Nat.lt_of_lt_of_le hX.1 HB9.out.size, hX.2⟩)
            have hz89 := HB9.out.size
            clear f0 f1 f2 f3 f4
            generalize nextP sg an on = NX at *
            go_wp2_with fail
            go_loopw [18] (fun q wr => WaysRel w5 w9 kb (kb + 1) (kb + 1 + 1) L.length T (D.set i true) NX.length q wr) (fun q _ => NX.length - (intOf q).toNat)
            case atStart => exact ⟨0, K, _, rfl, Nat.zero_le _, HF9.out, Off.refl _ _ _⟩
            case round =>
              obtain ⟨q, K2, V2, rfl, hq, hF2, hO2⟩ := hrel
              have HF2 := Lib.hid hF2
              have HO2 := Lib.hid hO2
              have HBR2 := Lib.hid (show Below kb w5 wr from hO2.to HBW9.out ⟨Nat.le_refl _, by omega⟩ (Nat.le_of_lt HF9.out.lt.1))
              have hkr : kb < wr.heap.size := hF2.lt.1
              by_cases hql : q < NX.length
              · have hql' : (q : Int) < NX.length := by omega
                obtain ⟨tt, htt⟩ : ∃ x, NX[q]? = some x := ⟨_, List.getElem?_eq_getElem hql⟩
                obtain ⟨pp, hpp, hpl, hpT⟩ := HNX.out tt (List.mem_of_getElem? htt)
                obtain ⟨xb, xo, hR9, hxb, hxc⟩ := HX9.out.2 (by omega)
                have ex : wr.cell? ⟨xb, xo + q, none⟩ = some (.int .i64 tt) := (World.cell?_of_block (a := ⟨xb, xo + q, none⟩) (hO2.block xb hxb.2 (by omega) (by omega))).trans (hxc q _ (by simp [htt]))
                have PL := Lib.hid (fun u (hu : Below wr.heap.size wr u) => rplace_any (some ⟨lb, lo, none⟩) nB L tt u (((HROW5.out.below HBR2.out).more (Nat.le_of_lt hkr) |>.below hu).more hu.size) (by omega))
                rw [hpp] at PL
                obtain ⟨kx, hkx⟩ : ∃ x, K2[pp]? = some x := ⟨_, List.getElem?_eq_getElem (by rw [hF2.kl]; exact hpl)⟩
                have ck := hF2.kc pp kx hkx
                have hpl' : (pp : Int) < L.length := by omega
                have HPT := Lib.hid hpT
                have HKX2 := Lib.hid hkx
                have hvx : ∃ v, V2[pp]? = some v := ⟨_, List.getElem?_eq_getElem (by rw [hF2.vl]; exact hpl)⟩
                obtain ⟨vx, hvx⟩ := hvx
                have cvx := hF2.vc pp vx hvx
                obtain ⟨ckc, ckf⟩ := ck
                obtain ⟨cvc, cvf⟩ := cvx
                have hXS2 : RowX wr (fun b => b < wr.heap.size ∧ b ≠ kb ∧ b ≠ kb + 1 ∧ b ≠ kb + 1 + 1) 1 R8 s'.length (s'.map (Value.int .i64)) := (HXS.out.keep fun b hX => hO2.block b hX.1 hX.2.1 hX.2.2.2).monoX fun b hX => ⟨Nat.lt_of_lt_of_le hX.1 hO2.size, hX.2⟩
                have HXS2 := Lib.hid hXS2
                subst hR9
                have hn3 : ¬ kb = kb + 1 + 1 := by omega
                have hn4 : ¬ kb + 1 + 1 = kb := by omega
                clear hF2 hO2 htt hpp hpT hxc hXS2 hkx
                cases kx
                · have HK := Lib.hid (HF2.out.setK pp hpl s' R8 c8 HPT.out hc81 hc82 HXS2.out)
                  clear hvx
                  go_wp2_with (go_at_call 62; refine (PL.out _ (by repeat (first | exact Below.refl _ _ | refine Below.drew ?_ | refine below_dN _ ?_))).mono ?_; rintro e wx ⟨rfl, hwx⟩; obtain rfl : wr = wx := hwx.symm)
                  go_roundw
                  case rel => exact ⟨q + 1, _, _, rfl, by omega, HK.out, (HO2.out.set ⟨kb, pp, none⟩ (.inl rfl) _).set ⟨kb + 1 + 1, pp, none⟩ (.inr rfl) _⟩
                  case measure => simp [intOf]; omega
                · obtain ⟨s4, A5, c5, hT5, hV5, hsc5, _, hX5⟩ := HF2.out.st pp HKX2.out
                  obtain rfl : s' = s4 := by have h := HPT.out.symm.trans hT5; simpa using h
                  obtain rfl : vx = .slice A5 s'.length c5 := by rw [hvx] at hV5; injection hV5
                  have MT := Lib.hid (fun u (hu : Below wr.heap.size wr u) => rmeet_ok A5 R8 c5 c8 s' u (((RowX.row hX5 (fun b hb => hb.1)).below hu).more hu.size) (((RowX.row HXS2.out (fun b hb => hb.1)).below hu).more hu.size) hsc5 hc81 (by omega))
                  clear hT5 hV5 hX5 hvx
                  go_wp2_with (go_at_call 62; refine (PL.out _ (by repeat (first | exact Below.refl _ _ | refine Below.drew ?_ | refine below_dN _ ?_))).mono ?_; rintro e wx ⟨rfl, hwx⟩; obtain rfl : wr = wx := hwx.symm)
                  refine (MT.out _ (Below.refl _ _)).mono ?_
                  rintro e w12 ⟨rfl, hb12⟩
                  have HF12 := Lib.hid (HF2.out.below hb12)
                  have HO12 := Lib.hid (HO2.out.below hb12)
                  clear hb12 ckc ckf cvc cvf ex
                  go_wp2_with fail
                  go_roundw
                  case rel => exact ⟨q + 1, K2, V2, rfl, by omega, HF12.out, HO12.out⟩
                  case measure => simp [intOf]; omega
              · have hqe : q = NX.length := by omega
                subst hqe
                have hun := HF2.out.undone
                have hun2 := HDC.out
                have hun3 := HUN.out
                have HU := Lib.hid (And.intro hun (And.intro hun2 hun3))
                clear hun hun2 hun3
                clear hF2 hO2
                go_wp2
                go_roundw
                case rel => exact ⟨0, h2, K2, D.set i true, V2, rfl, Nat.zero_le _, rfl, hh0, hh8, HF2.out, HBR2.out⟩
                case measure =>
                  obtain ⟨u1, u2, u3⟩ := HU.out
                  rw [u1, u3, ← u2, Nat.succ_mul]
                  simp [intOf]
                  omega
          · have HGO := Lib.hid hgo
            have hkd : kx = false ∨ dx = true := by cases kx <;> cases dx <;> simp_all
            clear hF hbr hgo hkx hdx
            rcases hkd with rfl | rfl
            · go_wp2
              go_roundw
              case rel => exact ⟨i + 1, hi, K, D, V, rfl, by omega, rfl, hi0, hi8, HF.out, HBR.out⟩
              case measure => simp [intOf]; omega
            · cases kx
              all_goals
                go_wp2
                go_roundw
                case rel => exact ⟨i + 1, hi, K, D, V, rfl, by omega, rfl, hi0, hi8, HF.out, HBR.out⟩
                case measure => simp [intOf]; omega
        · have hie : i = L.length := by omega
          subst hie
          clear hF hbr
          go_wp2
          go_ret2
          exact ⟨⟨hi, rfl⟩, HB5.out.trans (HBR.out.mono (Nat.le_of_lt hs5))⟩
end Go.Proofs.YtngobbbinacomaaDoor
