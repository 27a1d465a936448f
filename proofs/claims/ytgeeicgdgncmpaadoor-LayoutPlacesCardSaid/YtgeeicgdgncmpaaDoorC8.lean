/- Variables and their cells, as rows; put. -/
import Derived.Test.YtgeeicgdgncmpaaDoorB8
namespace Go.Proofs.YtgeeicgdgncmpaaDoor
open Go.RowKit
set_option linter.unusedVariables false
set_option linter.unusedSimpArgs false

structure CellD where
  path : ByteArray
  kind : Int
  retain : Bool
  init : Int
  len : Int
  block : Int

def cellCells (c : CellD) : List Value := [.string c.path, .int .i64 c.kind, .bool c.retain, .int .i64 c.init, .int .i64 c.len, .int .i64 c.block]
def cellRow (l : List CellD) : List Value := l.flatMap cellCells
theorem cellCells_length (c : CellD) : (cellCells c).length = 6 := rfl
theorem cellCells_one (c : CellD) : ∀ u ∈ cellCells c, u.oneCell' = true := by
  intro u hu; simp [cellCells] at hu; rcases hu with rfl | rfl | rfl | rfl | rfl | rfl <;> rfl

structure SymD where
  name : ByteArray
  kind : Int
  elem : Int
  n : Int
  fields : List FieldD
  retain : Bool
  init : List Int

/-- What is said of a variable's sizes. -/
structure SymD.Ok (s : SymD) : Prop where
  name : s.name.size ≤ 1000000
  fields : s.fields.length ≤ 1000000
  fnames : ∀ f ∈ s.fields, f.name.size ≤ 1000000
  init : s.init.length ≤ 1000000

def SymD.size (s : SymD) : Int := sizeOf8 s.kind s.n s.fields
def SymD.count (s : SymD) : Nat := (min (max s.size 0) 64).toNat
def SymD.cell (s : SymD) (i : Nat) : CellD :=
  ⟨pathOf s.name s.kind s.fields i, kindOf s.kind s.elem s.fields i, s.retain, s.init.getD i 0, if i = 0 ∧ s.kind = 7 then s.n else 0, if i = 0 ∧ (s.kind = 9 ∨ s.kind = 10) then s.kind else 0⟩
def SymD.cells (s : SymD) : List CellD := (List.range s.count).map s.cell
def cellsOf (l : List SymD) : List CellD := l.flatMap SymD.cells

theorem SymD.count_le (s : SymD) : s.count ≤ 64 := by unfold SymD.count; omega
theorem SymD.cells_length (s : SymD) : s.cells.length = s.count := by simp [SymD.cells]
theorem cellsOf_length_le (l : List SymD) : (cellsOf l).length ≤ l.length * 64 := by
  induction l with
  | nil => simp [cellsOf]
  | cons s l ih =>
    have := s.cells_length
    have := s.count_le
    simp only [cellsOf, List.flatMap_cons, List.length_append, List.length_cons] at *
    omega

/-- A variable, as it lies: seven cells. -/
def SymAt (w : World) (B b off : Nat) (s : SymD) : Prop :=
  ∃ Fa Fc Ia Ic, w.cell? ⟨b, off, none⟩ = some (.string s.name) ∧ w.cell? ⟨b, off + 1, none⟩ = some (.int .i64 s.kind) ∧ w.cell? ⟨b, off + 2, none⟩ = some (.int .i64 s.elem) ∧ w.cell? ⟨b, off + 3, none⟩ = some (.int .i64 s.n) ∧
    w.cell? ⟨b, off + 4, none⟩ = some (.slice Fa s.fields.length Fc) ∧ w.cell? ⟨b, off + 5, none⟩ = some (.bool s.retain) ∧ w.cell? ⟨b, off + 6, none⟩ = some (.slice Ia s.init.length Ic) ∧
    Row w B 2 Fa s.fields.length (fieldRow s.fields) ∧ s.fields.length ≤ Fc ∧ Fc ≤ 9223372036854775807 ∧ Row w B 1 Ia s.init.length (s.init.map (Value.int .i64)) ∧ s.init.length ≤ Ic ∧ Ic ≤ 9223372036854775807

theorem SymAt.below {w w' : World} {B b off : Nat} {s : SymD} (h : SymAt w B b off s) (hb : Below B w w') (hlt : b < B) : SymAt w' B b off s := by
  obtain ⟨Fa, Fc, Ia, Ic, c0, c1, c2, c3, c4, c5, c6, h1, h2, h3, h4, h5⟩ := h
  exact ⟨Fa, Fc, Ia, Ic, (dcell hb hlt _).trans c0, (dcell hb hlt _).trans c1, (dcell hb hlt _).trans c2, (dcell hb hlt _).trans c3, (dcell hb hlt _).trans c4, (dcell hb hlt _).trans c5, (dcell hb hlt _).trans c6, h1.below hb, h2, h3, h4.below hb, h5⟩

/-- A row of variables. -/
structure Syms (w : World) (B : Nat) (A : Option Addr) (n : Nat) (l : List SymD) : Prop where
  len : n = l.length
  at_ : 0 < n → ∃ b off, A = some ⟨b, off, none⟩ ∧ b < B ∧ ∀ (i : Nat) (s : SymD), l[i]? = some s → SymAt w B b (off + i * 7) s
  ok : ∀ s ∈ l, s.Ok

theorem Syms.below {w w' : World} {B : Nat} {A : Option Addr} {n : Nat} {l : List SymD} (h : Syms w B A n l) (hb : Below B w w') : Syms w' B A n l :=
  ⟨h.len, fun hn => by
    obtain ⟨b, off, e, hlt, hs⟩ := h.at_ hn
    exact ⟨b, off, e, hlt, fun i s hi => (hs i s hi).below hb hlt⟩, h.ok⟩

theorem cellInfo8 : (Tryd.prog.info? 36).map (fun i => (i.zero, i.size, i.bytes)) = some (some (.agg #[.string { data := #[] }, .int .i64 0, .bool false, .int .i64 0, .int .i64 0, .int .i64 0]), 6, 56) := by kernel_rfl
theorem cellTy8 : Tryd.prog.underlying 26 = some (.slice 36) := by kernel_rfl

set_option maxHeartbeats 1000000 in
theorem put_any (A : Option Addr) (n c : Nat) (xs : List Value) (A' : Option Addr) (m c' : Nat) (ys : List Value) (w : World) (hl : Row w w.heap.size 6 A n xs) (hr : Row w w.heap.size 6 A' m ys) (hn : n + m ≤ 100000000) (hc : n ≤ c) (hcm : c ≤ 9223372036854775807) :
    Calls Tryd.prog 19 #[.slice A n c, .slice A' m c'] w (RowBack w.heap.size 6 (n + m) (xs ++ ys) w) := by
  obtain ⟨i0, hi, hz0, hz1, hz2⟩ := info_parts cellInfo8
  have t27 := cellTy8
  have HL := Lib.hid hl
  have HR := Lib.hid hr
  have hc' : (n : Int) ≤ c := by omega
  clear hl hr
  go_enter Tryd.func19, Tryd.ntmps19
  go_wp2_with (at_builtin; refine wpList_append_full _ rfl _ _ 26 rfl 36 i0 _ 6 56 t27 hi hz0 hz1 hz2 rfl (by decide) w.heap.size A n xs rfl HL.out (Nat.le_refl _) A' m c' ys rfl HR.out ?qc4 ?qc5 ?_)
  case qc4 => unfold maxLen; omega
  case qc5 => omega
  intro R cap w1 hcc hcm' hrow hb
  have HB := Lib.hid hb
  have HRow := Lib.hid hrow
  have HC := Lib.hid hcc
  have HM := Lib.hid hcm'
  clear hb hrow hcc hcm'
  go_wp2
  go_ret
  exact ⟨⟨R, cap, rfl, HC.out, HM.out, HRow.out⟩, HB.out⟩
end Go.Proofs.YtgeeicgdgncmpaaDoor
