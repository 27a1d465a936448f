/- Chapter 10: how many bytes stand behind a sign; one byte taken; a number taken. -/
import Derived.Test.YtngobbbinacomaaDoorFrame
import Derived.WalkKit
import Derived.WalkSpells
import Derived.WalkLawsBesides
import Derived.Deep.DrawnRows
import Derived.Lib.Hide
import Derived.Deep.QuietTactic
import Derived.BigQuiet
import Derived.Lib.SliceRun
namespace Go.Proofs.YtngobbbinacomaaDoor.c10
open Go.Proofs.YtngobbbinacomaaDoor
open Go.RowKit
set_option linter.unusedVariables false

/-- How many bytes stand behind a sign. -/
def bearsN (s : Int) : Int := if s = 1 then 9 else if s = 2 ∨ s = 3 ∨ s = 4 ∨ s = 5 ∨ s = 6 ∨ s = 18 ∨ s = 19 ∨ s = 20 ∨ s = 23 ∨ s = 24 ∨ s = 25 ∨ s = 27 then 1 else 0

theorem bret {k : IntKind} {a b : Int} (h : a = b) : Ending.returned (.int k a) = .returned (.int k b) := by rw [h]

set_option maxHeartbeats 2000000 in
theorem bears_any (s : Int) (w : World) : Calls Tryd.prog 91 #[.int .i64 s] w fun e w' => e = .returned (.int .i64 (bearsN s)) ∧ w = w' := by
  go_enter Tryd.func91, Tryd.ntmps91
  go_wp2
  all_goals (go_ret; refine ⟨bret ?_, rfl⟩; unfold bearsN; first | (subst_vars; rfl) | (simp_all; done) | (simp_all; omega))

/-- Of u, w' differs in block b alone. -/
structure Only (b : Nat) (u w' : World) : Prop where
  os : w'.os = u.os
  tape : w'.tape = u.tape
  output : w'.output = u.output
  size : w'.heap.size = u.heap.size
  block : ∀ k, k ≠ b → w'.heap[k]? = u.heap[k]?

theorem Only.refl (b : Nat) (u : World) : Only b u u := ⟨rfl, rfl, rfl, rfl, fun _ _ => rfl⟩
theorem Only.trans {b : Nat} {u v w : World} (h : Only b u v) (k : Only b v w) : Only b u w :=
  ⟨k.os.trans h.os, k.tape.trans h.tape, k.output.trans h.output, k.size.trans h.size, fun i hi => (k.block i hi).trans (h.block i hi)⟩
theorem Only.cell {b : Nat} {u w' : World} (h : Only b u w') {p : Addr} (hp : p.block ≠ b) : w'.cell? p = u.cell? p := World.cell?_of_block (w := u) (h.block p.block hp)
theorem Only.frozen {b : Nat} {u w' : World} (h : Only b u w') {p : Addr} (hp : p.block ≠ b) : w'.frozen? p = u.frozen? p := World.frozen?_of_block (w := u) (h.block p.block hp)
theorem Only.below {b B : Nat} {u w' a : World} (h : Only b u w') (k : Below B a u) (hb : B ≤ b) : Below B a w' :=
  k.trans ⟨h.os, h.tape, h.output, Nat.le_of_eq h.size.symm, fun i hi => h.block i (by omega)⟩
theorem Only.set (b o : Nat) (u : World) (v : Value) : Only b u (u.setCell ⟨b, o, none⟩ v) :=
  ⟨rfl, rfl, rfl, by simp [World.setCell], fun k hk => Below.heap_setCell _ _ _ _ hk⟩
theorem Only.drewN {b : Nat} {u w' : World} (h : Only b u w') (n : Nat) : Only b u (w'.drewN n) := ⟨h.os, h.tape, h.output, h.size, h.block⟩

/-- A source in block b: its bytes, its place. -/
structure Src (b : Nat) (S : Value) (p : Int) (w : World) : Prop where
  k0 : w.cell? ⟨b, 0, none⟩ = some S
  k1 : w.cell? ⟨b, 1, none⟩ = some (.int .i64 p)
  f1 : w.frozen? ⟨b, 1, none⟩ = false

set_option maxHeartbeats 1000000 in
theorem byte_any (b g off len cap : Nat) (p v : Int) (w : World) (hgb : g ≠ b) (hp0 : 0 ≤ p) (hp1 : p < len) (hl : (len : Int) ≤ 4611686018427387904) (hv0 : 0 ≤ v) (hv1 : v < 256)
    (hs : Src b (.slice (some ⟨g, off, none⟩) len cap) p w) (kv : w.cell? ⟨g, off + p.toNat, none⟩ = some (.int .u8 v)) :
    Calls Tryd.prog 90 #[.pointer (some ⟨b, 0, none⟩)] w fun e w' => e = .returned (.int .i64 v) ∧ Src b (.slice (some ⟨g, off, none⟩) len cap) (p + 1) w' ∧ Only b w w' := by
  obtain ⟨k0, k1, f1⟩ := hs
  go_enter Tryd.func90, Tryd.ntmps90
  have e0 : (w.setCell ⟨b, 1, none⟩ (.int .i64 (p + 1))).cell? ⟨b, 0, none⟩ = some (.slice (some ⟨g, off, none⟩) len cap) := by go_simp
  have e1 : (w.setCell ⟨b, 1, none⟩ (.int .i64 (p + 1))).cell? ⟨b, 1, none⟩ = some (.int .i64 (p + 1)) := by go_simp
  have ef : (w.setCell ⟨b, 1, none⟩ (.int .i64 (p + 1))).frozen? ⟨b, 1, none⟩ = false := by go_simp
  have ev : (w.setCell ⟨b, 1, none⟩ (.int .i64 (p + 1))).cell? ⟨g, off + p.toNat, none⟩ = some (.int .u8 v) := by rw [(Only.set b 1 w _).cell (by exact hgb)]; exact kv
  have KV := Lib.hid ev
  have E0 := Lib.hid e0
  have E1 := Lib.hid e1
  have EF := Lib.hid ef
  clear ev e0 e1 ef kv
  go_wp2_with fail
  have kv := KV.out
  have e0 := E0.out
  have e1 := E1.out
  clear KV E0 E1 k0 k1 f1
  have HW := Lib.hid (Only.set b 1 w (.int .i64 (p + 1)))
  generalize hW : w.setCell ⟨b, 1, none⟩ (.int .i64 (p + 1)) = W at *
  clear hW
  go_quiet (fail)
  go_wp2
  go_ret
  exact ⟨rfl, ⟨e0, e1, EF.out⟩, HW.out.drewN nq⟩

/-- The number that so many bytes from q on make. -/
def numK (z : Nat → Int) (q : Nat) : Nat → Int
  | 0 => 0
  | k + 1 => bits .or .u64 (numK z q k) (IntKind.u64.wrap (z (q + k) * 2 ^ (8 * k)))
end Go.Proofs.YtngobbbinacomaaDoor.c10
