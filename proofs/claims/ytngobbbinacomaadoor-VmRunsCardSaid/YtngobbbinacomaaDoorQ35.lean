/- Chapter 14, the document's machine: its box, its cells' row, what it reads; what it leaves as it was. -/
import Derived.Test.YtngobbbinacomaaDoorQ34
import Derived.Test.YtngobbbinacomaaDoorQ33
import Derived.Deep.DeepCutAuto
namespace Go.Proofs.YtngobbbinacomaaDoor
open Go.RowKit Go.Proofs.YtngobbbinacomaaDoor.c11 Go.Proofs.YtngobbbinacomaaDoor.c10 Go.Proofs.YtngobbbinacomaaDoor.c13
set_option linter.unusedVariables false
set_option linter.unusedSimpArgs false
attribute [local go_sem ↓] Go.wp_at_zero Go.wp_at_succ
/-- The cells of the document's machine. -/
def rcells (m0 m1 m2 L C : Value) (E : Env) (S : St) : Array Value :=
  #[m0, m1, m2, L, C, .int .i64 E.i0, .int .i64 E.i1, .int .i64 E.i2, .int .i64 E.i3, .int .i64 S.o0, .int .i64 S.o1, .int .i64 S.o2, .int .i64 S.o3, .int .i64 E.now, .int .i64 S.left, .int .i64 S.used]
/-- Where its box lies, its cells' row; what it reads lies below K. -/
structure RWho where
  g : Nat
  K : Nat
  E : Env
  SA : Option Addr
  SC : Nat
  cg : Nat
  cc : Nat
def RWho.arr (M : RWho) (S : St) : Array Value := rcells (.slice M.SA 7 M.SC) (.slice M.E.Ca M.E.consts.length M.E.Cc) (.slice M.E.Fa M.E.funcs.length M.E.Fc) (.slice M.E.La M.E.lay.length M.E.Lc) (.slice (some ⟨M.cg, 0, none⟩) S.cells.length M.cc) M.E S
/-- The document's machine in a world. -/
structure RMach (M : RWho) (w : World) (S : St) : Prop where
  box : w.heap[M.g]? = some (.cells (M.arr S) 81 (0, 0))
  row : w.ownsRow 0 3 1 (.slice (some ⟨M.cg, 0, none⟩) S.cells.length M.cc) S.cells.length (S.cells.map (Value.int .i64))
  stat : Stat w (fun b => b < M.K ∧ b ≠ M.cg) M.E
  kg : M.K ≤ M.g
  ne : M.g ≠ M.cg
  bud : S.used + S.left ≤ 1000000
  cells : S.cells.length ≤ 1000000
theorem RMach.cell {M : RWho} {w : World} {S : St} (h : RMach M w S) (j : Nat) : w.cell? ⟨M.g, j, none⟩ = (M.arr S)[j]? := cell_of_heap h.box j
theorem RMach.frozen {M : RWho} {w : World} {S : St} (h : RMach M w S) (j : Nat) : w.frozen? ⟨M.g, j, none⟩ = false := frozen_of_row w M.g j _ _ h.box
theorem RMach.gw {M : RWho} {w : World} {S : St} (h : RMach M w S) : M.g < w.heap.size := heap_some_lt h.box
theorem RMach.cw {M : RWho} {w : World} {S : St} (h : RMach M w S) : M.cg < w.heap.size := (h.row.lt M.cg rfl).2
theorem RMach.kw {M : RWho} {w : World} {S : St} (h : RMach M w S) : M.K ≤ w.heap.size := Nat.le_of_lt (Nat.lt_of_le_of_lt h.kg h.gw)
theorem RMach.cap {M : RWho} {w : World} {S : St} (h : RMach M w S) : S.cells.length ≤ M.cc ∧ M.cc ≤ 9223372036854775807 := by
  obtain ⟨_, c, hv, h1, h2⟩ := own_slice h.row
  obtain rfl : M.cc = c := by injection hv
  unfold maxLen at h2
  exact ⟨h1, h2⟩
/-- A cell of the machine's. -/
theorem RMach.at_ {M : RWho} {w : World} {S : St} (h : RMach M w S) {j : Nat} {x : Int} (hx : S.cells[j]? = some x) : w.cell? ⟨M.cg, j, none⟩ = some (.int .i64 x) ∧ w.frozen? ⟨M.cg, j, none⟩ = false :=
  own_cellJ h.row (by rw [List.getElem?_map, hx]; rfl)
/-- w' is w, but for the machine's box, its cells' row, and blocks from K on. -/
structure RFr (M : RWho) (K : Nat) (w w' : World) : Prop where
  os : w'.os = w.os
  tape : w'.tape = w.tape
  output : w'.output = w.output
  size : w.heap.size ≤ w'.heap.size
  block : ∀ b, b < K → b ≠ M.g → b ≠ M.cg → w'.heap[b]? = w.heap[b]?
section
variable {M : RWho} {K K' : Nat} {a b c w w' : World}
theorem RFr.refl (M : RWho) (K : Nat) (w : World) : RFr M K w w := ⟨rfl, rfl, rfl, Nat.le_refl _, fun _ _ _ _ => rfl⟩
theorem RFr.trans (h : RFr M K a b) (k : RFr M K b c) : RFr M K a c :=
  ⟨k.os.trans h.os, k.tape.trans h.tape, k.output.trans h.output, Nat.le_trans h.size k.size, fun x hx h1 h2 => (k.block x hx h1 h2).trans (h.block x hx h1 h2)⟩
theorem RFr.mono (h : RFr M K' a b) (hK : K ≤ K') : RFr M K a b := ⟨h.os, h.tape, h.output, h.size, fun x hx h1 h2 => h.block x (by omega) h1 h2⟩
theorem RFr.drew (h : RFr M K a w) : RFr M K a w.drew := ⟨h.os, h.tape, h.output, h.size, h.block⟩
theorem RFr.drewN (h : RFr M K a w) (n : Nat) : RFr M K a (w.drewN n) := ⟨h.os, h.tape, h.output, h.size, h.block⟩
theorem RFr.alloc (h : RFr M K a w) (hK : K ≤ w.heap.size) (o : Obj) : RFr M K a (w.alloc o) :=
  ⟨h.os, h.tape, h.output, Nat.le_trans h.size (by simp), fun x hx h1 h2 => (Below.heap_alloc w o x (by omega)).trans (h.block x hx h1 h2)⟩
theorem RFr.below (h : RFr M K a w) {B : Nat} (hb : Below B w w') (hB : K ≤ B) : RFr M K a w' :=
  ⟨hb.os.trans h.os, hb.tape.trans h.tape, hb.output.trans h.output, Nat.le_trans h.size hb.size, fun x hx h1 h2 => (hb.block x (by omega)).trans (h.block x hx h1 h2)⟩
theorem RFr.setG (h : RFr M K a w) (j : Nat) (u : Value) : RFr M K a (w.setCell ⟨M.g, j, none⟩ u) :=
  ⟨h.os, h.tape, h.output, by simpa [World.setCell] using h.size, fun x hx h1 h2 => (Below.heap_setCell w ⟨M.g, j, none⟩ u x h1).trans (h.block x hx h1 h2)⟩
theorem RFr.setC (h : RFr M K a w) (j : Nat) (u : Value) : RFr M K a (w.setCell ⟨M.cg, j, none⟩ u) :=
  ⟨h.os, h.tape, h.output, by simpa [World.setCell] using h.size, fun x hx h1 h2 => (Below.heap_setCell w ⟨M.cg, j, none⟩ u x h2).trans (h.block x hx h1 h2)⟩
theorem RFr.grown (h : RFr M K a w) {row : Option Nat} (hg : w.grownBy w' row) (hK : K ≤ w.heap.size) (hr : ∀ k, row = some k → K ≤ k) : RFr M K a w' :=
  ⟨hg.os.trans h.os, hg.tape.trans h.tape, hg.output.trans h.output, Nat.le_trans h.size hg.size, fun x hx h1 h2 => (hg.block x (by omega) (fun e => by have := hr x e.symm; omega)).trans (h.block x hx h1 h2)⟩
end
section
variable {M : RWho} {w w' : World} {S S' : St}
theorem RMach.below (h : RMach M w S) (hb : Below w.heap.size w w') : RMach M w' S :=
  ⟨(hb.block M.g h.gw).trans h.box, own_bel h.row hb, h.stat.keep fun b hb' => hb.block b (Nat.lt_of_lt_of_le hb'.1 h.kw), h.kg, h.ne, h.bud, h.cells⟩
theorem RMach.alloc (h : RMach M w S) (o : Obj) : RMach M (w.alloc o) S := h.below (alloc_bel w o)
theorem RMach.drew (h : RMach M w S) : RMach M w.drew S := ⟨h.box, own_dr h.row, h.stat.keep fun _ _ => rfl, h.kg, h.ne, h.bud, h.cells⟩
theorem RMach.drewN (h : RMach M w S) (n : Nat) : RMach M (w.drewN n) S := ⟨h.box, h.row, h.stat.keep fun _ _ => rfl, h.kg, h.ne, h.bud, h.cells⟩
/-- A store into the machine's box. -/
theorem RMach.setG (h : RMach M w S) (j : Nat) (u : Value) (ha : (M.arr S).setIfInBounds j u = M.arr S') (hc : S'.cells = S.cells) (hb : S'.used + S'.left ≤ 1000000) : RMach M (w.setCell ⟨M.g, j, none⟩ u) S' := by
  refine ⟨?_, ?_, h.stat.keep fun b hb => Below.heap_setCell w ⟨M.g, j, none⟩ u b (by have := h.kg; simp; omega), h.kg, h.ne, hb, by rw [hc]; exact h.cells⟩
  · rw [blk_set h.box j u, ha]
  · rw [hc]
    exact own_setFar h.row (by simp [Value.ownBlock]; exact fun e => h.ne e.symm) _
/-- A store into a cell. -/
theorem RMach.setC (h : RMach M w S) {j : Nat} (hj : j < S.cells.length) (x : Int) : RMach M (w.setCell ⟨M.cg, j, none⟩ (.int .i64 x)) { S with cells := S.cells.set j x } := by
  refine ⟨?_, ?_, h.stat.keep fun b hb => Below.heap_setCell w ⟨M.cg, j, none⟩ _ b hb.2, h.kg, h.ne, h.bud, by simpa using h.cells⟩
  · have e : M.arr { S with cells := S.cells.set j x } = M.arr S := by simp [RWho.arr, rcells]
    rw [e]
    exact (Below.heap_setCell w ⟨M.cg, j, none⟩ _ M.g h.ne).trans h.box
  · have h2 := own_setIn h.row hj (Value.int .i64 x)
    show (w.setCell ⟨M.cg, j, none⟩ (.int .i64 x)).ownsRow 0 _ 1 (.slice _ (S.cells.set j x).length _) (S.cells.set j x).length ((S.cells.set j x).map (Value.int .i64))
    rw [List.length_set, List.map_set]
    exact h2
end
end Go.Proofs.YtngobbbinacomaaDoor

/- Chapter 14: the document's timer, counter, in its own cells. -/
namespace Go.Proofs.YtngobbbinacomaaDoor
open Go.RowKit Go.Proofs.YtngobbbinacomaaDoor.c11 Go.Proofs.YtngobbbinacomaaDoor.c10 Go.Proofs.YtngobbbinacomaaDoor.c13
set_option linter.unusedVariables false
set_option linter.unusedSimpArgs false
attribute [local go_sem ↓] Go.wp_at_zero Go.wp_at_succ
/-- Six cells, so many of which are copied. -/
def cArr (f : Nat → Int) (i : Nat) : Array Value := ((List.range 6).map fun j => Value.int .i64 (if j < i then f j else 0)).toArray
theorem cArr_set (f : Nat → Int) (i : Nat) (h : i < 6) : (cArr f i).setIfInBounds i (.int .i64 (f i)) = cArr f (i + 1) := by
  rcases (show i = 0 ∨ i = 1 ∨ i = 2 ∨ i = 3 ∨ i = 4 ∨ i = 5 by omega) with rfl | rfl | rfl | rfl | rfl | rfl <;> rfl
theorem cArr_all (f : Nat → Int) : cArr f 6 = #[.int .i64 (f 0), .int .i64 (f 1), .int .i64 (f 2), .int .i64 (f 3), .int .i64 (f 4), .int .i64 (f 5)] := rfl
/-- The machine's cells, so many of which are given back. -/
def mixC (cs : List Int) (a : Nat) (D : Nat → Int) (i : Nat) : List Int := cs.take a ++ (List.range i).map D ++ cs.drop (a + i)
theorem mixC_len (cs : List Int) (a : Nat) (D : Nat → Int) (i : Nat) (h : a + i ≤ cs.length) : (mixC cs a D i).length = cs.length := by simp [mixC]; omega
theorem mixC_zero (cs : List Int) (a : Nat) (D : Nat → Int) : mixC cs a D 0 = cs := by simp [mixC]
theorem mixC_set (cs : List Int) (a : Nat) (D : Nat → Int) (i : Nat) (h : a + i < cs.length) : (mixC cs a D i).set (a + i) (D i) = mixC cs a D (i + 1) := by
  unfold mixC
  rw [List.drop_eq_getElem_cons h, List.append_assoc, List.set_append_right _ _ (by simp; omega)]
  have e1 : a + i - (cs.take a).length = i := by simp; omega
  rw [e1, List.set_append_right _ _ (by simp)]
  simp [List.range_succ, Nat.add_assoc]
theorem six_cells {W : World} {g : Nat} {v0 v1 v2 v3 v4 v5 : Int} (h0 : W.cell? ⟨g, 0, none⟩ = some (.int .i64 v0)) (h1 : W.cell? ⟨g, 1, none⟩ = some (.int .i64 v1)) (h2 : W.cell? ⟨g, 2, none⟩ = some (.int .i64 v2)) (h3 : W.cell? ⟨g, 3, none⟩ = some (.int .i64 v3)) (h4 : W.cell? ⟨g, 4, none⟩ = some (.int .i64 v4)) (h5 : W.cell? ⟨g, 5, none⟩ = some (.int .i64 v5)) :
    ∀ j, j < 6 → W.cell? ⟨g, j, none⟩ = some (.int .i64 (([v0, v1, v2, v3, v4, v5] : List Int).getD j 0)) := by
  intro j hj
  rcases (show j = 0 ∨ j = 1 ∨ j = 2 ∨ j = 3 ∨ j = 4 ∨ j = 5 by omega) with rfl | rfl | rfl | rfl | rfl | rfl <;> assumption
def Blk1 (w : World) (f : Nat → Int) (i : Value) (wr : World) : Prop := ∃ k : Nat, i = .int .i64 k ∧ k ≤ 6 ∧ wr.heap[w.heap.size]? = some (.cells (cArr f k) 60 (0, 0)) ∧ Below w.heap.size w wr
def Blk2 (M : RWho) (w : World) (S : St) (a : Nat) (D : Nat → Int) (i : Value) (wr : World) : Prop := ∃ k : Nat, i = .int .i64 k ∧ k ≤ 6 ∧ RMach M wr { S with cells := mixC S.cells a D k } ∧ RFr M w.heap.size w wr ∧ (∀ j, j < 6 → wr.cell? ⟨w.heap.size, j, none⟩ = some (.int .i64 (D j))) ∧ w.heap.size < wr.heap.size
theorem blk2_step {M : RWho} {w wr : World} {S : St} {a k : Nat} {D : Nat → Int} {dk : Int} (hm : RMach M wr { S with cells := mixC S.cells a D k }) (hfr : RFr M w.heap.size w wr) (hd : ∀ j, j < 6 → wr.cell? ⟨w.heap.size, j, none⟩ = some (.int .i64 (D j)))
    (hs : (mixC S.cells a D k).set (a + k) dk = mixC S.cells a D (k + 1)) (hlt : a + k < (mixC S.cells a D k).length) (hne : M.cg ≠ w.heap.size) (hk : k < 6) (hz : w.heap.size < wr.heap.size) :
    Blk2 M w S a D (.int .i64 ((k : Int) + 1)) (wr.drew.setCell ⟨M.cg, a + k, none⟩ (.int .i64 dk)) := by
  refine ⟨k + 1, rfl, by omega, ?_, (hfr.drew).setC _ _, fun j hj => ?_, by simpa [World.setCell] using hz⟩
  · have h1 := (hm.drew).setC hlt dk
    simp only [hs] at h1
    exact h1
  · exact (World.cell?_setCell_other _ _ _ _ (by intro e; injection e with e1 _; exact hne e1)).trans (hd j hj)
set_option maxHeartbeats 8000000 in
set_option maxRecDepth 100000 in
/-- The document's block. -/
theorem rblock_any (M : RWho) (w : World) (S : St) (h : RMach M w S) (a : Nat) (ha : a + 6 ≤ S.cells.length) (hal : a < M.E.lay.length) (hb9 : (cellD M.E.lay a).block = 9 ∨ (cellD M.E.lay a).block = 10) (hl : (cellD M.E.lay a).block = 10 → -9223372036854775808 ≤ S.cells.getD (a + 4) 0) :
    Calls Tryd.prog 79 #[.pointer (some ⟨M.g, 0, none⟩), .int .i64 a] w fun e w' => e = .returned (.tuple #[]) ∧ RMach M w' (blockP M.E S a) ∧ RFr M w.heap.size w w' := by
  have hbp : blockP M.E S a = { S with cells := S.cells.take a ++ blockC M.E (cellD M.E.lay a).block (S.cells.getD a 0) (S.cells.getD (a + 1) 0) (S.cells.getD (a + 2) 0) (S.cells.getD (a + 3) 0) (S.cells.getD (a + 4) 0) (S.cells.getD (a + 5) 0) ++ S.cells.drop (a + 6) } := by
    unfold blockP
    rw [if_pos (by simp [isAt]; omega)]
    simp
  rw [hbp]
  clear hbp
  obtain ⟨hcc1, hcc2⟩ := h.cap
  have hcl := h.cells
  have hcc1' : (S.cells.length : Int) ≤ M.cc := by omega
  have hcc2' : (M.cc : Int) ≤ 9223372036854775807 := by omega
  have hcl' : (S.cells.length : Int) ≤ 1000000 := by omega
  have ha' : (a : Int) + 6 ≤ S.cells.length := by omega
  have hal' : (a : Int) < M.E.lay.length := by omega
  have hgw := h.gw
  have hcw := h.cw
  have hlc := h.stat.lc
  have hlc1 : (M.E.lay.length : Int) ≤ M.E.Lc := by omega
  have hlc2 : (M.E.Lc : Int) ≤ 9223372036854775807 := by omega
  obtain ⟨lb, lo, hLA, ⟨hlb, -⟩, hlcell⟩ := h.stat.lay.2 (by omega)
  have hlx : ∀ wx : World, Below w.heap.size w wx → wx.cell? ⟨lb, lo + a * 6 + 5, none⟩ = some (.int .i64 (cellD M.E.lay a).block) := fun wx hb => by
    have hx : M.E.lay[a]? = some (cellD M.E.lay a) := by
      unfold cellD
      rw [if_neg (by omega), Int.toNat_natCast, List.getD_eq_getElem?_getD, List.getElem?_eq_getElem hal]
      rfl
    have hh := hlcell (a * 6 + 5) _ ((flat_get cellCells 6 cellCells_length M.E.lay a 5 _ hx (by omega)).trans rfl)
    rw [← Nat.add_assoc] at hh
    exact (dcell hb (Nat.lt_of_lt_of_le hlb h.kw) _).trans hh
  have HLX := Lib.hid hlx
  have HM := Lib.hid h
  obtain ⟨f, hf⟩ : ∃ f : Nat → Int, f = fun j => S.cells.getD (a + j) 0 := ⟨_, rfl⟩
  have HF := Lib.hid hf
  rw [show S.cells.getD a 0 = f 0 by rw [hf]; rfl, show S.cells.getD (a + 1) 0 = f 1 by rw [hf], show S.cells.getD (a + 2) 0 = f 2 by rw [hf], show S.cells.getD (a + 3) 0 = f 3 by rw [hf], show S.cells.getD (a + 4) 0 = f 4 by rw [hf], show S.cells.getD (a + 5) 0 = f 5 by rw [hf]]
  rw [show S.cells.getD (a + 4) 0 = f 4 by rw [hf]] at hl
  have TN := Lib.hid (fun u => rton_any (f 0) (f 1) (f 2) (f 3) (f 4) (f 5) M.E.now u)
  have CT := Lib.hid (fun (h10 : (cellD M.E.lay a).block = 10) u => rctu_any (f 0) (f 1) (f 2) (f 3) (f 4) (f 5) u (hl h10))
  generalize (cellD M.E.lay a).block = bk at *
  have m4 : w.cell? ⟨M.g, 4, none⟩ = some (.slice (some ⟨M.cg, 0, none⟩) S.cells.length M.cc) := h.cell 4
  have m3 : w.cell? ⟨M.g, 3, none⟩ = some (.slice (some ⟨lb, lo, none⟩) M.E.lay.length M.E.Lc) := (h.cell 3).trans (by rw [← hLA]; rfl)
  have m13 : w.cell? ⟨M.g, 13, none⟩ = some (.int .i64 M.E.now) := h.cell 13
  have hga : ¬ M.g = w.heap.size := by omega
  have hgb : ¬ w.heap.size = M.g := by omega
  have HB9 := Lib.hid hb9
  clear h hlx hlcell hLA hl hf hlc hb9
  go_enter Tryd.func79, Tryd.ntmps79
  go_wp2_with fail
  go_loopw [5] (fun i wr => Blk1 w f i wr) (fun i _ => 6 - (intOf i).toNat)
  case atStart => exact ⟨0, rfl, Nat.zero_le _, heap_new _ _, (Below.refl _ w).alloc (Nat.le_refl _) _⟩
  case round =>
    obtain ⟨k, rfl, hk, hbx, hb⟩ := hrel
    have HBX := Lib.hid hbx
    have HBW := Lib.hid hb
    have k4 := (dcell hb hgw 4).trans m4
    have k3 := (dcell hb hgw 3).trans m3
    have k13 := (dcell hb hgw 13).trans m13
    have hzw : w.heap.size < wr.heap.size := heap_some_lt hbx
    by_cases hk6 : k < 6
    · have hk6' : (k : Int) < 6 := by omega
      obtain ⟨x, hx⟩ : ∃ x, S.cells[a + k]? = some x := ⟨_, List.getElem?_eq_getElem (by omega)⟩
      have hfx : f k = x := by rw [HF.out]; simp [List.getD_eq_getElem?_getD, hx]
      have e1 : wr.cell? ⟨M.cg, a + k, none⟩ = some (.int .i64 x) := (dcell hb hcw _).trans (HM.out.at_ hx).1
      have e2 : wr.frozen? ⟨w.heap.size, k, none⟩ = false := frozen_of_row wr _ k _ _ hbx
      obtain ⟨y, e3⟩ : ∃ y, wr.cell? ⟨w.heap.size, k, none⟩ = some y := ⟨_, (cell_of_heap hbx k).trans (Array.getElem?_eq_getElem (by simp [cArr]; omega))⟩
      have HFX := Lib.hid hfx
      have hak : (a : Int) + k < S.cells.length := by omega
      clear hbx hb hx hfx
      go_wp2_with fail
      go_roundw
      case rel =>
        refine ⟨k + 1, rfl, by omega, ?_, (by repeat (first | (with_reducible exact HBW.out) | (with_reducible exact Below.refl _ _) | (with_reducible refine Below.setCell ?_ (by first | omega | (simp; done) | (simp; omega)) _) | (with_reducible refine Below.drew ?_) | (with_reducible refine below_dN _ ?_) | (with_reducible refine Below.alloc ?_ (by first | omega | (simp; done) | (simp; omega)) _)))⟩
        rw [blk_set HBX.out, ← cArr_set f k hk6, HFX.out]
      case measure => simp [intOf]; omega
    · obtain rfl : k = 6 := by omega
      have hx5 := HLX.out wr hb
      rw [cArr_all] at HBX
      have c0 : wr.cell? ⟨w.heap.size, 0, none⟩ = some (.int .i64 (f 0)) := cell_of_heap HBX.out 0
      have c1 : wr.cell? ⟨w.heap.size, 1, none⟩ = some (.int .i64 (f 1)) := cell_of_heap HBX.out 1
      have c2 : wr.cell? ⟨w.heap.size, 2, none⟩ = some (.int .i64 (f 2)) := cell_of_heap HBX.out 2
      have c3 : wr.cell? ⟨w.heap.size, 3, none⟩ = some (.int .i64 (f 3)) := cell_of_heap HBX.out 3
      have c4 : wr.cell? ⟨w.heap.size, 4, none⟩ = some (.int .i64 (f 4)) := cell_of_heap HBX.out 4
      have c5 : wr.cell? ⟨w.heap.size, 5, none⟩ = some (.int .i64 (f 5)) := cell_of_heap HBX.out 5
      have g0 : wr.frozen? ⟨w.heap.size, 0, none⟩ = false := frozen_of_row wr _ 0 _ _ HBX.out
      have g1 : wr.frozen? ⟨w.heap.size, 1, none⟩ = false := frozen_of_row wr _ 1 _ _ HBX.out
      have g2 : wr.frozen? ⟨w.heap.size, 2, none⟩ = false := frozen_of_row wr _ 2 _ _ HBX.out
      have g3 : wr.frozen? ⟨w.heap.size, 3, none⟩ = false := frozen_of_row wr _ 3 _ _ HBX.out
      have g4 : wr.frozen? ⟨w.heap.size, 4, none⟩ = false := frozen_of_row wr _ 4 _ _ HBX.out
      have g5 : wr.frozen? ⟨w.heap.size, 5, none⟩ = false := frozen_of_row wr _ 5 _ _ HBX.out
      clear hbx hb HBX
      go_upto_if 30 with fail
      go_cut [] (fun wx => ∃ D : Nat → Int, (∀ j, j < 6 → wx.cell? ⟨w.heap.size, j, none⟩ = some (.int .i64 (D j))) ∧ blockC M.E bk (f 0) (f 1) (f 2) (f 3) (f 4) (f 5) = (List.range 6).map D ∧ Below w.heap.size w wx ∧ w.heap.size < wx.heap.size)
      case first =>
        rcases HB9.out with h9 | h9
        · subst h9
          go_wp2_with fail
          go_region_with (go_at_call 31; refine (TN.out _).mono ?_; rintro e u2 ⟨rfl, hb2⟩; have z2 := hb2.size; (try simp at z2); have HB2 := Lib.hid (show Below wr.heap.size wr u2 from Below.trans (by repeat (first | (with_reducible exact Below.refl _ _) | (with_reducible refine Below.drew ?_))) hb2); have q0 := (dcell hb2 (b := w.heap.size) (by first | omega | (simp; done) | (simp; omega))); have q1 := (dfroz hb2 (b := w.heap.size) (by first | omega | (simp; done) | (simp; omega))); have HBS := Lib.hid (show Below w.heap.size w u2 from HBW.out.trans (HB2.out.mono (by omega))); have hzs : w.heap.size < u2.heap.size := (by omega); clear hb2)
          all_goals (try go_wp2_with fail)
          all_goals go_meet
          all_goals exact ⟨fun j => ([f 0, f 1, tonQ (f 0) (f 1) (f 4) (f 5) M.E.now, tonE (f 0) (f 1) (f 4) (f 5) M.E.now, tonT (f 0) (f 4) (f 5) M.E.now, tonR (f 0) (f 5)] : List Int).getD j 0, six_cells (by go_simp) (by go_simp) (by go_simp) (by go_simp) (by go_simp) (by go_simp), by (rw [blockC, if_pos rfl]; rfl), (by repeat (first | (with_reducible exact HBS.out) | (with_reducible refine Below.setCell ?_ (by first | omega | (simp; done) | (simp; omega)) _) | (with_reducible refine Below.drew ?_))), by simp; omega⟩
        · subst h9
          go_wp2_with (go_at_call 32; refine (CT.out (by first | rfl | trivial) _).mono ?_; rintro e u2 ⟨rfl, hb2⟩; have z2 := hb2.size; (try simp at z2); have HB2 := Lib.hid (show Below wr.heap.size wr u2 from Below.trans (by repeat (first | (with_reducible exact Below.refl _ _) | (with_reducible refine Below.drew ?_))) hb2); have q0 := (dcell hb2 (b := w.heap.size) (by first | omega | (simp; done) | (simp; omega))); have q1 := (dfroz hb2 (b := w.heap.size) (by first | omega | (simp; done) | (simp; omega))); have HBS := Lib.hid (show Below w.heap.size w u2 from HBW.out.trans (HB2.out.mono (by omega))); have hzs : w.heap.size < u2.heap.size := (by omega); clear hb2)
          all_goals (try go_wp2_with fail)
          all_goals go_meet
          all_goals exact ⟨fun j => ([f 0, f 1, f 2, bit (decide (f 2 ≤ ctuV (f 0) (f 1) (f 4) (f 5))), ctuV (f 0) (f 1) (f 4) (f 5), f 0] : List Int).getD j 0, six_cells (by go_simp) (by go_simp) (by go_simp) (by go_simp) (by go_simp) (by go_simp), by (rw [blockC, if_neg (by decide), if_pos rfl]; rfl), (by repeat (first | (with_reducible exact HBS.out) | (with_reducible refine Below.setCell ?_ (by first | omega | (simp; done) | (simp; omega)) _) | (with_reducible refine Below.drew ?_))), by simp; omega⟩
      case rest =>
        obtain ⟨D, hD, hbk, hbx, hzx⟩ := hcut
        generalize hwd : wc = wx at *
        clear hwd
        have HBK := Lib.hid hbk
        have HD := Lib.hid hD
        have HBX := Lib.hid hbx
        have HMX := Lib.hid (HM.out.below hbx)
        have HFX := Lib.hid ((RFr.refl M w.heap.size w).below hbx (Nat.le_refl _))
        clear hbx hD c0 c1 c2 c3 c4 c5 g0 g1 g2 g3 g4 g5 TN CT k4 k3 k13 hx5 HLX hbk
        go_wp2_with fail
        go_loopw [6] (fun i wr => Blk2 M w S a D i wr) (fun i _ => 6 - (intOf i).toNat)
        case atStart => exact ⟨0, rfl, Nat.zero_le _, by rw [mixC_zero]; exact HMX.out, HFX.out, HD.out, hzx⟩
        case round =>
          obtain ⟨k, rfl, hk, hm, hfr, hd, hzr⟩ := hrel
          have HM2 := Lib.hid hm
          have HFR := Lib.hid hfr
          have HD2 := Lib.hid hd
          by_cases hk6 : k < 6
          · have hk6' : (k : Int) < 6 := by omega
            have hml := mixC_len S.cells a D k (by omega)
            have n4 : wr.cell? ⟨M.g, 4, none⟩ = some (.slice (some ⟨M.cg, 0, none⟩) S.cells.length M.cc) := (hm.cell 4).trans (by show some (Value.slice _ (mixC S.cells a D k).length _) = _; rw [hml])
            obtain ⟨y, hy⟩ : ∃ y, (mixC S.cells a D k)[a + k]? = some y := ⟨_, List.getElem?_eq_getElem (by omega)⟩
            obtain ⟨e1, e2⟩ := hm.at_ hy
            have e3 := hd k hk6
            have hcz : M.cg < wr.heap.size := hm.cw
            have hgz : M.g < wr.heap.size := hm.gw
            have hak : (a : Int) + k < S.cells.length := by omega
            have hi1 : IntKind.i64.wrap ((a : Int) + k) = a + k := by simp [IntKind.wrap, IntKind.bits, IntKind.signed]; omega
            have hneg : M.cg ≠ w.heap.size := by omega
            have HS := Lib.hid (mixC_set S.cells a D k (by omega))
            have HLT := Lib.hid (show a + k < (mixC S.cells a D k).length by omega)
            have HNE := Lib.hid hneg
            generalize D k = dk at *
            clear hm hfr hd hy hml hneg
            go_wp2_with fail
            go_region
            all_goals (try go_wp2_with fail)
            all_goals (go_roundw; (case rel => exact blk2_step HM2.out HFR.out HD2.out HS.out HLT.out HNE.out hk6 hzr); (case measure => (simp [intOf]; omega)))
          · obtain rfl : k = 6 := by omega
            have HMM := Lib.hid (show RMach M wr { S with cells := S.cells.take a ++ blockC M.E bk (f 0) (f 1) (f 2) (f 3) (f 4) (f 5) ++ S.cells.drop (a + 6) } by rw [HBK.out]; exact hm)
            clear hm hfr hd
            go_wp2_with fail
            first | (go_end0; exact ⟨rfl, HMM.out, HFR.out⟩) | exact bodyPost_ret (v := .tuple #[]) (by simp [results, Tryd.results79, go_sem]) rfl ⟨rfl, HMM.out, HFR.out⟩
end Go.Proofs.YtngobbbinacomaaDoor
