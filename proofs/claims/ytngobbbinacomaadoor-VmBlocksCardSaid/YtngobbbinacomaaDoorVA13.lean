/- Contracts of the small helpers of chapter 13: within, flag, get, set. -/
import Derived.Test.YtngobbbinacomaaDoorRows
import Derived.WalkKit
import Derived.WalkSpells
import Derived.WalkLawsBesides
import Derived.Lib.Hide
namespace Go.Proofs.YtngobbbinacomaaDoor.c13
open Go.Proofs.YtngobbbinacomaaDoor
set_option linter.unusedVariables false
open Go.RowKit

theorem ret_int {k : IntKind} {a b : Int} (h : a = b) : Ending.returned (.int k a) = .returned (.int k b) := by rw [h]

/-- A cell of a block is read. -/
theorem get_any (b : Nat) (k v : Int) (w : World) (h1 : 0 ≤ k) (h2 : k < 6) (hc : w.cell? ⟨b, k.toNat, none⟩ = some (.int .i64 v)) :
    Calls Tryd.prog 121 #[.pointer (some ⟨b, 0, none⟩), .int .i64 k] w fun e w' => e = .returned (.int .i64 v) ∧ w = w' := by
  go_enter Tryd.func121, Tryd.ntmps121
  go_wp2
  go_ret
  exact ⟨rfl, rfl⟩

/-- A cell of a block is written. -/
theorem set_any (b : Nat) (k v n : Int) (w : World) (h1 : 0 ≤ k) (h2 : k < 6) (hc : w.cell? ⟨b, k.toNat, none⟩ = some (.int .i64 v)) (hf : w.frozen? ⟨b, k.toNat, none⟩ = false) :
    Calls Tryd.prog 122 #[.pointer (some ⟨b, 0, none⟩), .int .i64 k, .int .i64 n] w fun e w' => e = .returned (.tuple #[]) ∧ w.setCell ⟨b, k.toNat, none⟩ (.int .i64 n) = w' := by
  go_enter Tryd.func122, Tryd.ntmps122
  go_wp2
  go_end0
  exact ⟨rfl, rfl⟩

/-- A Bool as a number (under a name: an open 'if' would part every walk). -/
def bit (t : Bool) : Int := if t then 1 else 0

theorem flag_any (t : Bool) (w : World) :
    Calls Tryd.prog 123 #[.bool t] w fun e w' => e = .returned (.int .i64 (bit t)) ∧ w = w' := by
  cases t
  · go_enter Tryd.func123, Tryd.ntmps123
    go_wp2
    go_ret
    exact ⟨rfl, rfl⟩
  · go_enter Tryd.func123, Tryd.ntmps123
    go_wp2
    go_ret
    exact ⟨rfl, rfl⟩

/-- Six cells of integers in a block that none has frozen. -/
structure Six (w : World) (b : Nat) (c0 c1 c2 c3 c4 c5 : Int) : Prop where
  k0 : w.cell? ⟨b, 0, none⟩ = some (.int .i64 c0)
  k1 : w.cell? ⟨b, 1, none⟩ = some (.int .i64 c1)
  k2 : w.cell? ⟨b, 2, none⟩ = some (.int .i64 c2)
  k3 : w.cell? ⟨b, 3, none⟩ = some (.int .i64 c3)
  k4 : w.cell? ⟨b, 4, none⟩ = some (.int .i64 c4)
  k5 : w.cell? ⟨b, 5, none⟩ = some (.int .i64 c5)
  f0 : w.frozen? ⟨b, 0, none⟩ = false
  f1 : w.frozen? ⟨b, 1, none⟩ = false
  f2 : w.frozen? ⟨b, 2, none⟩ = false
  f3 : w.frozen? ⟨b, 3, none⟩ = false
  f4 : w.frozen? ⟨b, 4, none⟩ = false
  f5 : w.frozen? ⟨b, 5, none⟩ = false

theorem only_drew {a w : World} {row : Option Nat} (h : a.grownBy w row) : a.grownBy w.drew row := ⟨h.os, h.tape, h.output, h.size, h.block⟩
theorem only_setCell {a w : World} {g : Nat} (h : a.grownBy w (some g)) {p : Addr} (hp : p.block = g ∨ a.heap.size ≤ p.block) (u : Value) : a.grownBy (w.setCell p u) (some g) :=
  ⟨h.os, h.tape, h.output, by simpa [World.setCell] using h.size, fun i hi hne => (Below.heap_setCell w p u i (by
    rintro rfl
    rcases hp with hp | hp
    · exact hne (by rw [hp])
    · omega)).trans (h.block i hi hne)⟩
end Go.Proofs.YtngobbbinacomaaDoor.c13
