/- Chapter 10: Read, in its cases. -/
import Derived.Test.YtngobbbinacomaaDoorVB10
namespace Go.Proofs.YtngobbbinacomaaDoor.c10
open Go.Proofs.YtngobbbinacomaaDoor
open Go.RowKit
set_option linter.unusedVariables false
set_option linter.unusedSimpArgs false

theorem setDrewN (w : World) (n : Nat) (a : Addr) (v : Value) : (w.drewN n).setCell a v = (w.setCell a v).drewN n := rfl
theorem allocDrewN (w : World) (n : Nat) (o : Obj) : (w.drewN n).alloc o = (w.alloc o).drewN n := rfl
attribute [local go_sem, local simp] setDrewN allocDrewN

theorem bears_is {s n : Int} (h : bearsN s = n) (w : World) : Calls Tryd.prog 91 #[.int .i64 s] w fun e w' => e = .returned (.int .i64 n) ∧ w = w' := h ▸ bears_any s w
theorem bears_still {s n : Int} (h : bearsN s = n) (w : World) : Calls Tryd.prog 91 #[.int .i64 s] w fun e w' => e = .returned (.int .i64 n) ∧ w' = w := (bears_is h w).mono fun _ _ h => ⟨h.1, h.2.symm⟩

/-- An instruction's five cells. -/
structure Five (u : World) (b : Nat) (a0 a1 a2 a3 a4 : Int) : Prop where
  c0 : u.cell? ⟨b, 0, none⟩ = some (.int .i64 a0)
  c1 : u.cell? ⟨b, 1, none⟩ = some (.int .i64 a1)
  c2 : u.cell? ⟨b, 2, none⟩ = some (.int .i64 a2)
  c3 : u.cell? ⟨b, 3, none⟩ = some (.int .i64 a3)
  c4 : u.cell? ⟨b, 4, none⟩ = some (.int .i64 a4)
  f0 : u.frozen? ⟨b, 0, none⟩ = false
  f1 : u.frozen? ⟨b, 1, none⟩ = false
  f2 : u.frozen? ⟨b, 2, none⟩ = false
  f3 : u.frozen? ⟨b, 3, none⟩ = false
  f4 : u.frozen? ⟨b, 4, none⟩ = false

theorem Five.only {u u' : World} {b t : Nat} {a0 a1 a2 a3 a4 : Int} (h : Five u b a0 a1 a2 a3 a4) (o : Only t u u') (hb : b ≠ t) : Five u' b a0 a1 a2 a3 a4 := by
  obtain ⟨c0, c1, c2, c3, c4, f0, f1, f2, f3, f4⟩ := h
  constructor <;> first | (rw [o.cell (by exact hb)]; assumption) | (rw [o.frozen (by exact hb)]; assumption)

theorem below_drewN {B : Nat} {a w : World} (n : Nat) (h : Below B a w) : Below B a (w.drewN n) := h.trans ⟨rfl, rfl, rfl, Nat.le_refl _, fun _ _ => rfl⟩

/-- Its cells alone. -/
structure Cells5 (u : World) (b : Nat) (a0 a1 a2 a3 a4 : Int) : Prop where
  c0 : u.cell? ⟨b, 0, none⟩ = some (.int .i64 a0)
  c1 : u.cell? ⟨b, 1, none⟩ = some (.int .i64 a1)
  c2 : u.cell? ⟨b, 2, none⟩ = some (.int .i64 a2)
  c3 : u.cell? ⟨b, 3, none⟩ = some (.int .i64 a3)
  c4 : u.cell? ⟨b, 4, none⟩ = some (.int .i64 a4)

/-- An instruction as a value, with a number. -/
def opT (a0 a1 a2 a3 a4 e : Int) : Value := .tuple #[.agg #[.int .i64 a0, .int .i64 a1, .int .i64 a2, .int .i64 a3, .int .i64 a4], .int .i64 e]

set_option maxHeartbeats 2000000 in
theorem read_out_lo (S : Option Addr) (len cap : Nat) (p : Int) (w : World) (hp : p < 0) (hl : (len : Int) ≤ 4611686018427387904) :
    Calls Tryd.prog 74 #[.slice S len cap, .int .i64 p] w fun e w' => e = .returned (opT 0 0 0 0 0 12) ∧ Below w.heap.size w w' := by
  go_enter Tryd.func74, Tryd.ntmps74
  go_wp2
  refine bodyPost_ret (v := opT 0 0 0 0 0 12) (by simp [results, Tryd.results74, go_sem, opT]) rfl ⟨rfl, ?_⟩
  repeat (first | exact Below.refl _ _ | refine Below.setCell ?_ (by first | omega | (simp; done) | (simp; omega)) _ | refine Below.alloc ?_ (by first | omega | (simp; done) | (simp; omega)) _)

set_option maxHeartbeats 2000000 in
theorem read_out_hi (S : Option Addr) (len cap : Nat) (p : Int) (w : World) (hp : 0 ≤ p) (hp' : (len : Int) ≤ p) (hl : (len : Int) ≤ 4611686018427387904) :
    Calls Tryd.prog 74 #[.slice S len cap, .int .i64 p] w fun e w' => e = .returned (opT 0 0 0 0 0 12) ∧ Below w.heap.size w w' := by
  have h0 : ¬ p < 0 := by omega
  go_enter Tryd.func74, Tryd.ntmps74
  go_wp2
  refine bodyPost_ret (v := opT 0 0 0 0 0 12) (by simp [results, Tryd.results74, go_sem, opT]) rfl ⟨rfl, ?_⟩
  repeat (first | exact Below.refl _ _ | refine Below.setCell ?_ (by first | omega | (simp; done) | (simp; omega)) _ | refine Below.alloc ?_ (by first | omega | (simp; done) | (simp; omega)) _)

set_option maxHeartbeats 4000000 in
theorem read_bad (g off len cap p : Nat) (z : Nat → Int) (w : World) (hg : g < w.heap.size) (hp : p < len) (hl : (len : Int) ≤ 4611686018427387904) (hz : ∀ i, i < len → 0 ≤ z i ∧ z i < 256)
    (kv : ∀ i, i < len → w.cell? ⟨g, off + i, none⟩ = some (.int .u8 (z i))) (hs : 29 < z p) :
    Calls Tryd.prog 74 #[.slice (some ⟨g, off, none⟩) len cap, .int .i64 p] w fun e w' => e = .returned (opT 0 0 0 0 0 10) ∧ Below w.heap.size w w' := by
  have HZ := Lib.hid hz
  have KV := Lib.hid kv
  clear hz kv
  have hp0 : ¬ (p : Int) < 0 := by omega
  have hp1 : ¬ (len : Int) ≤ p := by omega
  go_enter Tryd.func74, Tryd.ntmps74
  go_wp2_with fail
  refine (byte_any (w.heap.size + 1) g off len cap p (z p) _ (by omega) (by omega) (by omega) hl (HZ.out p hp).1 (HZ.out p hp).2 ?_ ?_).mono ?_
  · constructor <;> go_simp
  · have := KV.out p hp
    go_simp
  rintro e u ⟨rfl, hs', ho⟩
  have F5 := Lib.hid (Five.only (b := w.heap.size) (a0 := 0) (a1 := 0) (a2 := 0) (a3 := 0) (a4 := 0) (by constructor <;> go_simp) ho (by omega))
  have hsz : u.heap.size = w.heap.size + 1 + 1 := by rw [ho.size]; simp
  have HB := Lib.hid (show Below w.heap.size w u by
    refine ho.below ?_ (by omega)
    repeat (first | exact Below.refl _ _ | refine Below.setCell ?_ (by first | omega | (simp; done) | (simp; omega)) _ | refine Below.alloc ?_ (by first | omega | (simp; done) | (simp; omega)) _))
  have HS := Lib.hid hs'
  clear hs' ho
  obtain ⟨c0, c1, c2, c3, c4, f0, f1, f2, f3, f4⟩ := F5.out
  clear F5
  go_wp2
  refine bodyPost_ret (v := opT 0 0 0 0 0 10) (by simp [results, Tryd.results74, go_sem, opT, c0, c1, c2, c3, c4, hsz]) rfl ⟨rfl, ?_⟩
  repeat (first | exact HB.out | refine Below.setCell ?_ (by first | omega | (simp; done) | (simp; omega)) _ | refine Below.alloc ?_ (by first | omega | (simp; done) | (simp; omega)) _)
end Go.Proofs.YtngobbbinacomaaDoor.c10
