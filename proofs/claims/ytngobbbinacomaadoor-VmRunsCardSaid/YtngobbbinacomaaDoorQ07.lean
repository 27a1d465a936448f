/- Texts of VA10, VB10, VC10, VD10, VE10, VF10, VG10, VH10, VM10, VI10, VJ10, VN10, VO10, in one. -/
import Derived.Test.YtngobbbinacomaaDoorQ01
import Derived.WalkKit
import Derived.WalkSpells
import Derived.WalkLawsBesides
import Derived.Deep.DrawnRows
import Derived.Lib.Hide
import Derived.Deep.QuietTactic
import Derived.BigQuiet
import Derived.Lib.SliceRun
import Derived.BigGuardPart
/- Chapter 10: how many bytes stand behind a sign; one byte taken; a number taken. -/
namespace Go.Proofs.YtngobbbinacomaaDoor.c10
open Go.Proofs.YtngobbbinacomaaDoor
open Go.RowKit
set_option linter.unusedVariables false
/-- How many bytes stand behind a sign. -/
def bearsN (s : Int) : Int := if s = 1 then 9 else if s = 2 ∨ s = 3 ∨ s = 4 ∨ s = 5 ∨ s = 6 ∨ s = 18 ∨ s = 19 ∨ s = 20 ∨ s = 23 ∨ s = 24 ∨ s = 25 ∨ s = 27 then 1 else 0
theorem bret {k : IntKind} {a b : Int} (h : a = b) : Ending.returned (.int k a) = .returned (.int k b) := by rw [h]
set_option maxHeartbeats 2000000 in
theorem bears_any (s : Int) (w : World) : Calls Tryd.prog 91 #[.int .i64 s] w fun e w' => e = .returned (.int .i64 (bearsN s)) ∧ w = w' := by
  go_enter Tryd.func91, Tryd.ntmps91
  go_wp2
  all_goals (go_ret; refine ⟨bret ?_, rfl⟩; unfold bearsN; first | (subst_vars; rfl) | (simp_all; done) | (simp_all; omega))
/-- Of u, w' differs in block b alone. -/
structure Only (b : Nat) (u w' : World) : Prop where
  os : w'.os = u.os
  tape : w'.tape = u.tape
  output : w'.output = u.output
  size : w'.heap.size = u.heap.size
  block : ∀ k, k ≠ b → w'.heap[k]? = u.heap[k]?
theorem Only.refl (b : Nat) (u : World) : Only b u u := ⟨rfl, rfl, rfl, rfl, fun _ _ => rfl⟩
theorem Only.trans {b : Nat} {u v w : World} (h : Only b u v) (k : Only b v w) : Only b u w :=
  ⟨k.os.trans h.os, k.tape.trans h.tape, k.output.trans h.output, k.size.trans h.size, fun i hi => (k.block i hi).trans (h.block i hi)⟩
theorem Only.cell {b : Nat} {u w' : World} (h : Only b u w') {p : Addr} (hp : p.block ≠ b) : w'.cell? p = u.cell? p := World.cell?_of_block (w := u) (h.block p.block hp)
theorem Only.frozen {b : Nat} {u w' : World} (h : Only b u w') {p : Addr} (hp : p.block ≠ b) : w'.frozen? p = u.frozen? p := World.frozen?_of_block (w := u) (h.block p.block hp)
theorem Only.below {b B : Nat} {u w' a : World} (h : Only b u w') (k : Below B a u) (hb : B ≤ b) : Below B a w' :=
  k.trans ⟨h.os, h.tape, h.output, Nat.le_of_eq h.size.symm, fun i hi => h.block i (by omega)⟩
theorem Only.set (b o : Nat) (u : World) (v : Value) : Only b u (u.setCell ⟨b, o, none⟩ v) :=
  ⟨rfl, rfl, rfl, by simp [World.setCell], fun k hk => Below.heap_setCell _ _ _ _ hk⟩
theorem Only.drewN {b : Nat} {u w' : World} (h : Only b u w') (n : Nat) : Only b u (w'.drewN n) := ⟨h.os, h.tape, h.output, h.size, h.block⟩
/-- A source in block b: its bytes, its place. -/
structure Src (b : Nat) (S : Value) (p : Int) (w : World) : Prop where
  k0 : w.cell? ⟨b, 0, none⟩ = some S
  k1 : w.cell? ⟨b, 1, none⟩ = some (.int .i64 p)
  f1 : w.frozen? ⟨b, 1, none⟩ = false
set_option maxHeartbeats 1000000 in
theorem byte_any (b g off len cap : Nat) (p v : Int) (w : World) (hgb : g ≠ b) (hp0 : 0 ≤ p) (hp1 : p < len) (hl : (len : Int) ≤ 4611686018427387904) (hv0 : 0 ≤ v) (hv1 : v < 256)
    (hs : Src b (.slice (some ⟨g, off, none⟩) len cap) p w) (kv : w.cell? ⟨g, off + p.toNat, none⟩ = some (.int .u8 v)) :
    Calls Tryd.prog 90 #[.pointer (some ⟨b, 0, none⟩)] w fun e w' => e = .returned (.int .i64 v) ∧ Src b (.slice (some ⟨g, off, none⟩) len cap) (p + 1) w' ∧ Only b w w' := by
  obtain ⟨k0, k1, f1⟩ := hs
  go_enter Tryd.func90, Tryd.ntmps90
  have e0 : (w.setCell ⟨b, 1, none⟩ (.int .i64 (p + 1))).cell? ⟨b, 0, none⟩ = some (.slice (some ⟨g, off, none⟩) len cap) := by go_simp
  have e1 : (w.setCell ⟨b, 1, none⟩ (.int .i64 (p + 1))).cell? ⟨b, 1, none⟩ = some (.int .i64 (p + 1)) := by go_simp
  have ef : (w.setCell ⟨b, 1, none⟩ (.int .i64 (p + 1))).frozen? ⟨b, 1, none⟩ = false := by go_simp
  have ev : (w.setCell ⟨b, 1, none⟩ (.int .i64 (p + 1))).cell? ⟨g, off + p.toNat, none⟩ = some (.int .u8 v) := by rw [(Only.set b 1 w _).cell (by exact hgb)]; exact kv
  have KV := Lib.hid ev
  have E0 := Lib.hid e0
  have E1 := Lib.hid e1
  have EF := Lib.hid ef
  clear ev e0 e1 ef kv
  go_wp2_with fail
  have kv := KV.out
  have e0 := E0.out
  have e1 := E1.out
  clear KV E0 E1 k0 k1 f1
  have HW := Lib.hid (Only.set b 1 w (.int .i64 (p + 1)))
  generalize hW : w.setCell ⟨b, 1, none⟩ (.int .i64 (p + 1)) = W at *
  clear hW
  go_quiet (fail)
  go_wp2
  go_ret
  exact ⟨rfl, ⟨e0, e1, EF.out⟩, HW.out.drewN nq⟩
/-- The number that so many bytes from q on make. -/
def numK (z : Nat → Int) (q : Nat) : Nat → Int
  | 0 => 0
  | k + 1 => bits .or .u64 (numK z q k) (IntKind.u64.wrap (z (q + k) * 2 ^ (8 * k)))
end Go.Proofs.YtngobbbinacomaaDoor.c10
/- Chapter 10: a number taken. -/
namespace Go.Proofs.YtngobbbinacomaaDoor.c10
open Go.Proofs.YtngobbbinacomaaDoor
open Go.RowKit
set_option linter.unusedVariables false
theorem wrap_u64 (v : Int) (h0 : 0 ≤ v) (h1 : v < 18446744073709551616) : IntKind.u64.wrap v = v := by
  simp [IntKind.wrap, IntKind.bits, IntKind.signed]
  omega
set_option maxHeartbeats 4000000 in
theorem number_any (b g off len cap p : Nat) (z : Nat → Int) (w : World) (hgb : g ≠ b) (hp1 : p + 8 ≤ len) (hl : (len : Int) ≤ 4611686018427387904) (hz : ∀ i, i < len → 0 ≤ z i ∧ z i < 256)
    (hs : Src b (.slice (some ⟨g, off, none⟩) len cap) p w) (kv : ∀ i, i < len → w.cell? ⟨g, off + i, none⟩ = some (.int .u8 (z i))) :
    Calls Tryd.prog 92 #[.pointer (some ⟨b, 0, none⟩)] w fun e w' => e = .returned (.int .i64 (wrap64 (numK z p 8))) ∧ Src b (.slice (some ⟨g, off, none⟩) len cap) (p + 8) w' ∧ Only b w w' := by
  have HS := Lib.hid hs
  have KV := Lib.hid kv
  have HZ := Lib.hid hz
  clear hs kv hz
  go_enter Tryd.func92, Tryd.ntmps92
  go_wp2_with fail
  go_loopw [3, 5] (fun u i wr => ∃ k : Nat, k ≤ 8 ∧ i = .int .i64 k ∧ u = .int .u64 (numK z p k) ∧ Src b (.slice (some ⟨g, off, none⟩) len cap) (p + k) wr ∧ Only b w wr) (fun _ i _ => 8 - (intOf i).toNat)
  case atStart => exact ⟨0, by omega, rfl, rfl, by simpa using HS.out, Only.refl _ _⟩
  case round =>
    obtain ⟨k, hk, rfl, rfl, hs, ho⟩ := hrel
    by_cases hlt : k < 8
    · have hv := HZ.out (p + k) (by omega)
      have hc : wr.cell? ⟨g, off + ((p : Int) + k).toNat, none⟩ = some (.int .u8 (z (p + k))) := by
        rw [ho.cell (by exact hgb), ← KV.out (p + k) (by omega)]
        have : ((p : Int) + k).toNat = p + k := by omega
        rw [this]
      have C := Lib.hid (byte_any b g off len cap (p + k) (z (p + k)) wr hgb (by omega) (by omega) hl hv.1 hv.2 hs hc)
      have hw1 := wrap_u64 (z (p + k)) hv.1 (by omega)
      have hk8 : wrap64 (8 * (k : Int)) = 8 * k := IntWalk.wrap64_in _ ⟨by omega, by omega⟩
      have hk9 : (8 * (k : Int)).toNat = 8 * k := by omega
      have HO := Lib.hid ho
      have hlt' : (k : Int) < 8 := by omega
      have hk0 : (0 : Int) ≤ 8 * k := by omega
      clear hs hc ho
      go_wp2_with fail
      refine C.out.mono ?_
      rintro e u ⟨rfl, hs, ho⟩
      have HS' := Lib.hid hs
      have HO' := Lib.hid (HO.out.trans ho)
      clear hs ho
      go_wp2
      go_roundw
      case rel => 
        refine ⟨k + 1, by omega, by go_num, ?_, by have := HS'.out; rw [show ((p : Int) + (k + 1 : Nat)) = p + k + 1 by omega]; exact this, HO'.out⟩
        simp [numK, *]
      case measure => simp [intOf]; omega
    · have : k = 8 := by omega
      subst this
      clear hlt
      have HS' := Lib.hid hs
      have HO' := Lib.hid ho
      clear hs ho
      go_wp2
      go_ret
      exact ⟨rfl, HS'.out, HO'.out⟩
end Go.Proofs.YtngobbbinacomaaDoor.c10
/- Chapter 10: Read, in its cases. -/
namespace Go.Proofs.YtngobbbinacomaaDoor.c10
open Go.Proofs.YtngobbbinacomaaDoor
open Go.RowKit
set_option linter.unusedVariables false
set_option linter.unusedSimpArgs false
theorem setDrewN (w : World) (n : Nat) (a : Addr) (v : Value) : (w.drewN n).setCell a v = (w.setCell a v).drewN n := rfl
theorem allocDrewN (w : World) (n : Nat) (o : Obj) : (w.drewN n).alloc o = (w.alloc o).drewN n := rfl
attribute [local go_sem, local simp] setDrewN allocDrewN
theorem bears_is {s n : Int} (h : bearsN s = n) (w : World) : Calls Tryd.prog 91 #[.int .i64 s] w fun e w' => e = .returned (.int .i64 n) ∧ w = w' := h ▸ bears_any s w
theorem bears_still {s n : Int} (h : bearsN s = n) (w : World) : Calls Tryd.prog 91 #[.int .i64 s] w fun e w' => e = .returned (.int .i64 n) ∧ w' = w := (bears_is h w).mono fun _ _ h => ⟨h.1, h.2.symm⟩
/-- An instruction's five cells. -/
structure Five (u : World) (b : Nat) (a0 a1 a2 a3 a4 : Int) : Prop where
  c0 : u.cell? ⟨b, 0, none⟩ = some (.int .i64 a0)
  c1 : u.cell? ⟨b, 1, none⟩ = some (.int .i64 a1)
  c2 : u.cell? ⟨b, 2, none⟩ = some (.int .i64 a2)
  c3 : u.cell? ⟨b, 3, none⟩ = some (.int .i64 a3)
  c4 : u.cell? ⟨b, 4, none⟩ = some (.int .i64 a4)
  f0 : u.frozen? ⟨b, 0, none⟩ = false
  f1 : u.frozen? ⟨b, 1, none⟩ = false
  f2 : u.frozen? ⟨b, 2, none⟩ = false
  f3 : u.frozen? ⟨b, 3, none⟩ = false
  f4 : u.frozen? ⟨b, 4, none⟩ = false
theorem Five.only {u u' : World} {b t : Nat} {a0 a1 a2 a3 a4 : Int} (h : Five u b a0 a1 a2 a3 a4) (o : Only t u u') (hb : b ≠ t) : Five u' b a0 a1 a2 a3 a4 := by
  obtain ⟨c0, c1, c2, c3, c4, f0, f1, f2, f3, f4⟩ := h
  constructor <;> first | (rw [o.cell (by exact hb)]; assumption) | (rw [o.frozen (by exact hb)]; assumption)
theorem below_drewN {B : Nat} {a w : World} (n : Nat) (h : Below B a w) : Below B a (w.drewN n) := h.trans ⟨rfl, rfl, rfl, Nat.le_refl _, fun _ _ => rfl⟩
/-- Its cells alone. -/
structure Cells5 (u : World) (b : Nat) (a0 a1 a2 a3 a4 : Int) : Prop where
  c0 : u.cell? ⟨b, 0, none⟩ = some (.int .i64 a0)
  c1 : u.cell? ⟨b, 1, none⟩ = some (.int .i64 a1)
  c2 : u.cell? ⟨b, 2, none⟩ = some (.int .i64 a2)
  c3 : u.cell? ⟨b, 3, none⟩ = some (.int .i64 a3)
  c4 : u.cell? ⟨b, 4, none⟩ = some (.int .i64 a4)
/-- An instruction as a value, with a number. -/
def opT (a0 a1 a2 a3 a4 e : Int) : Value := .tuple #[.agg #[.int .i64 a0, .int .i64 a1, .int .i64 a2, .int .i64 a3, .int .i64 a4], .int .i64 e]
set_option maxHeartbeats 2000000 in
theorem read_out_lo (S : Option Addr) (len cap : Nat) (p : Int) (w : World) (hp : p < 0) (hl : (len : Int) ≤ 4611686018427387904) :
    Calls Tryd.prog 74 #[.slice S len cap, .int .i64 p] w fun e w' => e = .returned (opT 0 0 0 0 0 12) ∧ Below w.heap.size w w' := by
  go_enter Tryd.func74, Tryd.ntmps74
  go_wp2
  refine bodyPost_ret (v := opT 0 0 0 0 0 12) (by simp [results, Tryd.results74, go_sem, opT]) rfl ⟨rfl, ?_⟩
  repeat (first | exact Below.refl _ _ | refine Below.setCell ?_ (by first | omega | (simp; done) | (simp; omega)) _ | refine Below.alloc ?_ (by first | omega | (simp; done) | (simp; omega)) _)
set_option maxHeartbeats 2000000 in
theorem read_out_hi (S : Option Addr) (len cap : Nat) (p : Int) (w : World) (hp : 0 ≤ p) (hp' : (len : Int) ≤ p) (hl : (len : Int) ≤ 4611686018427387904) :
    Calls Tryd.prog 74 #[.slice S len cap, .int .i64 p] w fun e w' => e = .returned (opT 0 0 0 0 0 12) ∧ Below w.heap.size w w' := by
  have h0 : ¬ p < 0 := by omega
  go_enter Tryd.func74, Tryd.ntmps74
  go_wp2
  refine bodyPost_ret (v := opT 0 0 0 0 0 12) (by simp [results, Tryd.results74, go_sem, opT]) rfl ⟨rfl, ?_⟩
  repeat (first | exact Below.refl _ _ | refine Below.setCell ?_ (by first | omega | (simp; done) | (simp; omega)) _ | refine Below.alloc ?_ (by first | omega | (simp; done) | (simp; omega)) _)
set_option maxHeartbeats 4000000 in
theorem read_bad (g off len cap p : Nat) (z : Nat → Int) (w : World) (hg : g < w.heap.size) (hp : p < len) (hl : (len : Int) ≤ 4611686018427387904) (hz : ∀ i, i < len → 0 ≤ z i ∧ z i < 256)
    (kv : ∀ i, i < len → w.cell? ⟨g, off + i, none⟩ = some (.int .u8 (z i))) (hs : 29 < z p) :
    Calls Tryd.prog 74 #[.slice (some ⟨g, off, none⟩) len cap, .int .i64 p] w fun e w' => e = .returned (opT 0 0 0 0 0 10) ∧ Below w.heap.size w w' := by
  have HZ := Lib.hid hz
  have KV := Lib.hid kv
  clear hz kv
  have hp0 : ¬ (p : Int) < 0 := by omega
  have hp1 : ¬ (len : Int) ≤ p := by omega
  go_enter Tryd.func74, Tryd.ntmps74
  go_wp2_with fail
  refine (byte_any (w.heap.size + 1) g off len cap p (z p) _ (by omega) (by omega) (by omega) hl (HZ.out p hp).1 (HZ.out p hp).2 ?_ ?_).mono ?_
  · constructor <;> go_simp
  · have := KV.out p hp
    go_simp
  rintro e u ⟨rfl, hs', ho⟩
  have F5 := Lib.hid (Five.only (b := w.heap.size) (a0 := 0) (a1 := 0) (a2 := 0) (a3 := 0) (a4 := 0) (by constructor <;> go_simp) ho (by omega))
  have hsz : u.heap.size = w.heap.size + 1 + 1 := by rw [ho.size]; simp
  have HB := Lib.hid (show Below w.heap.size w u by
    refine ho.below ?_ (by omega)
    repeat (first | exact Below.refl _ _ | refine Below.setCell ?_ (by first | omega | (simp; done) | (simp; omega)) _ | refine Below.alloc ?_ (by first | omega | (simp; done) | (simp; omega)) _))
  have HS := Lib.hid hs'
  clear hs' ho
  obtain ⟨c0, c1, c2, c3, c4, f0, f1, f2, f3, f4⟩ := F5.out
  clear F5
  go_wp2
  refine bodyPost_ret (v := opT 0 0 0 0 0 10) (by simp [results, Tryd.results74, go_sem, opT, c0, c1, c2, c3, c4, hsz]) rfl ⟨rfl, ?_⟩
  repeat (first | exact HB.out | refine Below.setCell ?_ (by first | omega | (simp; done) | (simp; omega)) _ | refine Below.alloc ?_ (by first | omega | (simp; done) | (simp; omega)) _)
end Go.Proofs.YtngobbbinacomaaDoor.c10
/- Chapter 10: Read, cut. -/
namespace Go.Proofs.YtngobbbinacomaaDoor.c10
open Go.Proofs.YtngobbbinacomaaDoor
open Go.RowKit
set_option linter.unusedVariables false
set_option linter.unusedSimpArgs false
attribute [local go_sem, local simp] setDrewN allocDrewN
set_option maxHeartbeats 30000000 in
theorem read_cut (g off len cap p : Nat) (z : Nat → Int) (w : World) (hg : g < w.heap.size) (hp : p < len) (hl : (len : Int) ≤ 4611686018427387904) (hz : ∀ i, i < len → 0 ≤ z i ∧ z i < 256)
    (kv : ∀ i, i < len → w.cell? ⟨g, off + i, none⟩ = some (.int .u8 (z i))) (hs : z p ≤ 29) (hc : (len : Int) - (p + 1) < bearsN (z p)) (hn : bearsN (z p) ≤ 9) :
    Calls Tryd.prog 74 #[.slice (some ⟨g, off, none⟩) len cap, .int .i64 p] w fun e w' => e = .returned (opT 0 0 0 0 0 8) ∧ Below w.heap.size w w' := by
  have HZ := Lib.hid hz
  have KV := Lib.hid kv
  clear hz kv
  have hp0 : ¬ (p : Int) < 0 := by omega
  have hp1 : ¬ (len : Int) ≤ p := by omega
  have hs1 : ¬ 29 < z p := by omega
  generalize hnb : bearsN (z p) = nb at *
  have HNB := Lib.hid hnb
  clear hnb
  go_enter Tryd.func74, Tryd.ntmps74
  go_wp2_with fail
  refine (byte_any (w.heap.size + 1) g off len cap p (z p) _ (by omega) (by omega) (by omega) hl (HZ.out p hp).1 (HZ.out p hp).2 ?_ ?_).mono ?_
  · constructor <;> go_simp
  · have := KV.out p hp
    go_simp
  rintro e u ⟨rfl, hs', ho⟩
  have F5 := Lib.hid (Five.only (b := w.heap.size) (a0 := 0) (a1 := 0) (a2 := 0) (a3 := 0) (a4 := 0) (by constructor <;> go_simp) ho (by omega))
  have hsz : u.heap.size = w.heap.size + 1 + 1 := by rw [ho.size]; simp
  have HB := Lib.hid (show Below w.heap.size w u by
    refine ho.below ?_ (by omega)
    repeat (first | (with_reducible exact Below.refl _ _) | (with_reducible refine below_drewN _ ?_) | (with_reducible refine Below.setCell ?_ (by first | omega | (simp; done) | (simp; omega)) _) | (with_reducible refine Below.alloc ?_ (by first | omega | (simp; done) | (simp; omega)) _)))
  have KU := Lib.hid (show ∀ i, i < len → u.cell? ⟨g, off + i, none⟩ = some (.int .u8 (z i)) by
    intro i hi
    rw [ho.cell (by show g ≠ _; omega)]
    have := KV.out i hi
    go_simp)
  obtain ⟨t0, t1, tf⟩ := hs'
  clear ho KV
  obtain ⟨c0, c1, c2, c3, c4, f0, f1, f2, f3, f4⟩ := F5.out
  clear F5
  go_wp2_with fail
  go_quiet ((go_at_call 91; refine Calls.quiet_of_same ((show Calls Tryd.prog 91 #[.int .i64 (z p)] _ _ from (bears_any (z p) _).mono fun _ _ h => ⟨h.1.trans (by rw [HNB.out]), h.2.symm⟩))))
  go_wp2
  refine bodyPost_ret (v := opT 0 0 0 0 0 8) ((fun (W : World) (h : Cells5 W w.heap.size 0 0 0 0 0) => (by obtain ⟨c0, c1, c2, c3, c4⟩ := h; simp [results, Tryd.results74, go_sem, opT, c0, c1, c2, c3, c4] : (results _ _).run _ W = .ok _ W)) _ ?_) rfl ⟨rfl, ?_⟩
  · constructor <;> go_simp
  repeat (first | (with_reducible exact HB.out) | (with_reducible refine below_drewN _ ?_) | (with_reducible refine Below.setCell ?_ (by first | omega | (simp; done) | (simp; omega)) _) | (with_reducible refine Below.alloc ?_ (by first | omega | (simp; done) | (simp; omega)) _))
end Go.Proofs.YtngobbbinacomaaDoor.c10
/- Chapter 10: Read, a bare sign. -/
namespace Go.Proofs.YtngobbbinacomaaDoor.c10
open Go.Proofs.YtngobbbinacomaaDoor
open Go.RowKit
set_option linter.unusedVariables false
set_option linter.unusedSimpArgs false
attribute [local go_sem, local simp] setDrewN allocDrewN
set_option maxHeartbeats 30000000 in
theorem read_bare (g off len cap p : Nat) (z : Nat → Int) (w : World) (hg : g < w.heap.size) (hp : p < len) (hl : (len : Int) ≤ 4611686018427387904) (hz : ∀ i, i < len → 0 ≤ z i ∧ z i < 256)
    (kv : ∀ i, i < len → w.cell? ⟨g, off + i, none⟩ = some (.int .u8 (z i))) (hs : z p ≤ 29) (hc : bearsN (z p) = 0) (hne : (z p == 1) = false) :
    Calls Tryd.prog 74 #[.slice (some ⟨g, off, none⟩) len cap, .int .i64 p] w fun e w' => e = .returned (opT p (p + 1) (z p) 0 0 0) ∧ Below w.heap.size w w' := by
  have HZ := Lib.hid hz
  have KV := Lib.hid kv
  clear hz kv
  have hp0 : ¬ (p : Int) < 0 := by omega
  have hp1 : ¬ (len : Int) ≤ p := by omega
  have hs1 : ¬ 29 < z p := by omega
  have HNB := Lib.hid hc
  clear hc
  go_enter Tryd.func74, Tryd.ntmps74
  go_wp2_with fail
  refine (byte_any (w.heap.size + 1) g off len cap p (z p) _ (by omega) (by omega) (by omega) hl (HZ.out p hp).1 (HZ.out p hp).2 ?_ ?_).mono ?_
  · constructor <;> go_simp
  · have := KV.out p hp
    go_simp
  rintro e u ⟨rfl, hs', ho⟩
  have F5 := Lib.hid (Five.only (b := w.heap.size) (a0 := 0) (a1 := 0) (a2 := 0) (a3 := 0) (a4 := 0) (by constructor <;> go_simp) ho (by omega))
  have hsz : u.heap.size = w.heap.size + 1 + 1 := by rw [ho.size]; simp
  have HB := Lib.hid (show Below w.heap.size w u by
    refine ho.below ?_ (by omega)
    repeat (first | (with_reducible exact Below.refl _ _) | (with_reducible refine below_drewN _ ?_) | (with_reducible refine Below.setCell ?_ (by first | omega | (simp; done) | (simp; omega)) _) | (with_reducible refine Below.alloc ?_ (by first | omega | (simp; done) | (simp; omega)) _)))
  have KU := Lib.hid (show ∀ i, i < len → u.cell? ⟨g, off + i, none⟩ = some (.int .u8 (z i)) by
    intro i hi
    rw [ho.cell (by show g ≠ _; omega)]
    have := KV.out i hi
    go_simp)
  obtain ⟨t0, t1, tf⟩ := hs'
  clear ho KV
  obtain ⟨c0, c1, c2, c3, c4, f0, f1, f2, f3, f4⟩ := F5.out
  clear F5
  go_wp2_with fail
  go_quiet ((go_at_call 91; refine Calls.quiet_of_same (bears_still HNB.out _)))
  go_wp2_with fail
  refine (bears_is HNB.out _).mono ?_
  rintro e u1 ⟨rfl, hW⟩
  have hg2 : g < u.heap.size := by omega
  have F5 : Five u1 w.heap.size 0 0 0 0 0 := by rw [← hW]; clear hW; constructor <;> go_simp
  have G5 : Five u1 (w.heap.size + 1 + 1) p 0 ((z p)) 0 0 := by rw [← hW]; clear hW; constructor <;> go_simp
  have S2 : Src (w.heap.size + 1) (.slice (some ⟨g, off, none⟩) len cap) (p + 1) u1 := by rw [← hW]; clear hW; constructor <;> go_simp
  have hsz1 : u1.heap.size = w.heap.size + 1 + 1 + 1 := by rw [← hW]; simp [hsz]
  have HB1 := Lib.hid (show Below w.heap.size w u1 by
    rw [← hW]
    repeat (first | (with_reducible exact HB.out) | (with_reducible refine below_drewN _ ?_) | (with_reducible refine Below.setCell ?_ (by first | omega | (simp; done) | (simp; omega)) _) | (with_reducible refine Below.alloc ?_ (by first | omega | (simp; done) | (simp; omega)) _)))
  have KU1 := Lib.hid (show ∀ i, i < len → u1.cell? ⟨g, off + i, none⟩ = some (.int .u8 (z i)) by
    intro i hi
    rw [← hW]
    exact (World.cell?_alloc_past _ _ _ hg2).trans (KU.out i hi))
  clear hW c0 c1 c2 c3 c4 f0 f1 f2 f3 f4 t0 t1 tf KU HB hg2 hsz
  obtain ⟨t0, t1, tf⟩ := S2
  obtain ⟨c0, c1, c2, c3, c4, f0, f1, f2, f3, f4⟩ := F5
  obtain ⟨s0, s1, s2, s3, s4, g0, g1, g2, g3, g4⟩ := G5
  go_wp2
  refine bodyPost_ret (v := opT p (p + 1) (z p) 0 0 0) ((fun (W : World) (h : Cells5 W w.heap.size p (p + 1) (z p) 0 0) => (by obtain ⟨c0, c1, c2, c3, c4⟩ := h; simp [results, Tryd.results74, go_sem, opT, c0, c1, c2, c3, c4] : (results _ _).run _ W = .ok _ W)) _ ?_) rfl ⟨rfl, ?_⟩
  · constructor <;> go_simp
  repeat (first | (with_reducible exact HB1.out) | (with_reducible refine below_drewN _ ?_) | (with_reducible refine Below.setCell ?_ (by first | omega | (simp; done) | (simp; omega)) _) | (with_reducible refine Below.alloc ?_ (by first | omega | (simp; done) | (simp; omega)) _))
end Go.Proofs.YtngobbbinacomaaDoor.c10
/- Chapter 10: Read, a sign with a byte. -/
namespace Go.Proofs.YtngobbbinacomaaDoor.c10
open Go.Proofs.YtngobbbinacomaaDoor
open Go.RowKit
set_option linter.unusedVariables false
set_option linter.unusedSimpArgs false
attribute [local go_sem, local simp] setDrewN allocDrewN
set_option maxHeartbeats 30000000 in
theorem read_one (g off len cap p : Nat) (z : Nat → Int) (w : World) (hg : g < w.heap.size) (hp : p < len) (hl : (len : Int) ≤ 4611686018427387904) (hz : ∀ i, i < len → 0 ≤ z i ∧ z i < 256)
    (kv : ∀ i, i < len → w.cell? ⟨g, off + i, none⟩ = some (.int .u8 (z i))) (hs : z p ≤ 29) (hq : p + 1 < len) (hc : bearsN (z p) = 1) (hne : (z p == 1) = false) :
    Calls Tryd.prog 74 #[.slice (some ⟨g, off, none⟩) len cap, .int .i64 p] w fun e w' => e = .returned (opT p (p + 2) (z p) (z (p + 1)) 0 0) ∧ Below w.heap.size w w' := by
  have HZ := Lib.hid hz
  have KV := Lib.hid kv
  clear hz kv
  have hp0 : ¬ (p : Int) < 0 := by omega
  have hp1 : ¬ (len : Int) ≤ p := by omega
  have hs1 : ¬ 29 < z p := by omega
  have HNB := Lib.hid hc
  clear hc
  go_enter Tryd.func74, Tryd.ntmps74
  go_wp2_with fail
  refine (byte_any (w.heap.size + 1) g off len cap p (z p) _ (by omega) (by omega) (by omega) hl (HZ.out p hp).1 (HZ.out p hp).2 ?_ ?_).mono ?_
  · constructor <;> go_simp
  · have := KV.out p hp
    go_simp
  rintro e u ⟨rfl, hs', ho⟩
  have F5 := Lib.hid (Five.only (b := w.heap.size) (a0 := 0) (a1 := 0) (a2 := 0) (a3 := 0) (a4 := 0) (by constructor <;> go_simp) ho (by omega))
  have hsz : u.heap.size = w.heap.size + 1 + 1 := by rw [ho.size]; simp
  have HB := Lib.hid (show Below w.heap.size w u by
    refine ho.below ?_ (by omega)
    repeat (first | (with_reducible exact Below.refl _ _) | (with_reducible refine below_drewN _ ?_) | (with_reducible refine Below.setCell ?_ (by first | omega | (simp; done) | (simp; omega)) _) | (with_reducible refine Below.alloc ?_ (by first | omega | (simp; done) | (simp; omega)) _)))
  have KU := Lib.hid (show ∀ i, i < len → u.cell? ⟨g, off + i, none⟩ = some (.int .u8 (z i)) by
    intro i hi
    rw [ho.cell (by show g ≠ _; omega)]
    have := KV.out i hi
    go_simp)
  obtain ⟨t0, t1, tf⟩ := hs'
  clear ho KV
  obtain ⟨c0, c1, c2, c3, c4, f0, f1, f2, f3, f4⟩ := F5.out
  clear F5
  go_wp2_with fail
  go_quiet ((go_at_call 91; refine Calls.quiet_of_same (bears_still HNB.out _)))
  go_wp2_with fail
  refine (bears_is HNB.out _).mono ?_
  rintro e u1 ⟨rfl, hW⟩
  have hg2 : g < u.heap.size := by omega
  have F5 : Five u1 w.heap.size 0 0 0 0 0 := by rw [← hW]; clear hW; constructor <;> go_simp
  have G5 : Five u1 (w.heap.size + 1 + 1) p 0 ((z p)) 0 0 := by rw [← hW]; clear hW; constructor <;> go_simp
  have S2 : Src (w.heap.size + 1) (.slice (some ⟨g, off, none⟩) len cap) (p + 1) u1 := by rw [← hW]; clear hW; constructor <;> go_simp
  have hsz1 : u1.heap.size = w.heap.size + 1 + 1 + 1 := by rw [← hW]; simp [hsz]
  have HB1 := Lib.hid (show Below w.heap.size w u1 by
    rw [← hW]
    repeat (first | (with_reducible exact HB.out) | (with_reducible refine below_drewN _ ?_) | (with_reducible refine Below.setCell ?_ (by first | omega | (simp; done) | (simp; omega)) _) | (with_reducible refine Below.alloc ?_ (by first | omega | (simp; done) | (simp; omega)) _)))
  have KU1 := Lib.hid (show ∀ i, i < len → u1.cell? ⟨g, off + i, none⟩ = some (.int .u8 (z i)) by
    intro i hi
    rw [← hW]
    exact (World.cell?_alloc_past _ _ _ hg2).trans (KU.out i hi))
  clear hW c0 c1 c2 c3 c4 f0 f1 f2 f3 f4 t0 t1 tf KU HB hg2 hsz
  obtain ⟨t0, t1, tf⟩ := S2
  obtain ⟨c0, c1, c2, c3, c4, f0, f1, f2, f3, f4⟩ := F5
  obtain ⟨s0, s1, s2, s3, s4, g0, g1, g2, g3, g4⟩ := G5
  go_wp2_with fail
  refine (byte_any (w.heap.size + 1) g off len cap (p + 1) (z (p + 1)) _ (by omega) (by omega) (by omega) hl (HZ.out (p + 1) (by omega)).1 (HZ.out (p + 1) (by omega)).2 ⟨t0, t1, tf⟩ ?_).mono ?_
  · rw [show ((p : Int) + 1).toNat = p + 1 by omega]
    exact KU1.out (p + 1) (by omega)
  rintro e u2 ⟨rfl, hs', ho⟩
  have F5 := Five.only (b := w.heap.size) ⟨c0, c1, c2, c3, c4, f0, f1, f2, f3, f4⟩ ho (by omega)
  have G5 := Five.only (b := w.heap.size + 1 + 1) ⟨s0, s1, s2, s3, s4, g0, g1, g2, g3, g4⟩ ho (by omega)
  have hsz2 : u2.heap.size = w.heap.size + 1 + 1 + 1 := by rw [ho.size]; exact hsz1
  have HB2 := Lib.hid (show Below w.heap.size w u2 from ho.below HB1.out (by omega))
  have KU2 := Lib.hid (show ∀ i, i < len → u2.cell? ⟨g, off + i, none⟩ = some (.int .u8 (z i)) from fun i hi => by
    rw [ho.cell (by show g ≠ _; omega)]
    exact KU1.out i hi)
  clear c0 c1 c2 c3 c4 f0 f1 f2 f3 f4 t0 t1 tf s0 s1 s2 s3 s4 g0 g1 g2 g3 g4 ho KU1 HB1 hsz1
  obtain ⟨t0, t1, tf⟩ := hs'
  rw [show (p : Int) + 1 + 1 = (p : Int) + 2 by omega] at t1
  obtain ⟨c0, c1, c2, c3, c4, f0, f1, f2, f3, f4⟩ := F5
  obtain ⟨s0, s1, s2, s3, s4, g0, g1, g2, g3, g4⟩ := G5
  go_wp2
  refine bodyPost_ret (v := opT p (p + 2) (z p) (z (p + 1)) 0 0) ((fun (W : World) (h : Cells5 W w.heap.size p (p + 2) (z p) (z (p + 1)) 0) => (by obtain ⟨c0, c1, c2, c3, c4⟩ := h; simp [results, Tryd.results74, go_sem, opT, c0, c1, c2, c3, c4] : (results _ _).run _ W = .ok _ W)) _ ?_) rfl ⟨rfl, ?_⟩
  · constructor <;> go_simp
  repeat (first | (with_reducible exact HB2.out) | (with_reducible refine below_drewN _ ?_) | (with_reducible refine Below.setCell ?_ (by first | omega | (simp; done) | (simp; omega)) _) | (with_reducible refine Below.alloc ?_ (by first | omega | (simp; done) | (simp; omega)) _))
end Go.Proofs.YtngobbbinacomaaDoor.c10
/- Chapter 10: Read, a number that is pushed. -/
namespace Go.Proofs.YtngobbbinacomaaDoor.c10
open Go.Proofs.YtngobbbinacomaaDoor
open Go.RowKit
set_option linter.unusedVariables false
set_option linter.unusedSimpArgs false
attribute [local go_sem, local simp] setDrewN allocDrewN
set_option maxHeartbeats 30000000 in
theorem read_push (g off len cap p : Nat) (z : Nat → Int) (w : World) (hg : g < w.heap.size) (hp : p < len) (hl : (len : Int) ≤ 4611686018427387904) (hz : ∀ i, i < len → 0 ≤ z i ∧ z i < 256)
    (kv : ∀ i, i < len → w.cell? ⟨g, off + i, none⟩ = some (.int .u8 (z i))) (hs : z p = 1) (hq : p + 9 < len) :
    Calls Tryd.prog 74 #[.slice (some ⟨g, off, none⟩) len cap, .int .i64 p] w fun e w' => e = .returned (opT p (p + 10) 1 (z (p + 1)) (wrap64 (numK z (p + 2) 8)) 0) ∧ Below w.heap.size w w' := by
  have HZ := Lib.hid hz
  have KV := Lib.hid kv
  clear hz kv
  have hp0 : ¬ (p : Int) < 0 := by omega
  have hp1 : ¬ (len : Int) ≤ p := by omega
  have HNB := Lib.hid (show bearsN 1 = 9 from rfl)
  go_enter Tryd.func74, Tryd.ntmps74
  go_wp2_with fail
  refine (byte_any (w.heap.size + 1) g off len cap p (z p) _ (by omega) (by omega) (by omega) hl (HZ.out p hp).1 (HZ.out p hp).2 ?_ ?_).mono ?_
  · constructor <;> go_simp
  · have := KV.out p hp
    go_simp
  rintro e u ⟨rfl, hs', ho⟩
  have F5 := Lib.hid (Five.only (b := w.heap.size) (a0 := 0) (a1 := 0) (a2 := 0) (a3 := 0) (a4 := 0) (by constructor <;> go_simp) ho (by omega))
  have hsz : u.heap.size = w.heap.size + 1 + 1 := by rw [ho.size]; simp
  have HB := Lib.hid (show Below w.heap.size w u by
    refine ho.below ?_ (by omega)
    repeat (first | (with_reducible exact Below.refl _ _) | (with_reducible refine below_drewN _ ?_) | (with_reducible refine Below.setCell ?_ (by first | omega | (simp; done) | (simp; omega)) _) | (with_reducible refine Below.alloc ?_ (by first | omega | (simp; done) | (simp; omega)) _)))
  have KU := Lib.hid (show ∀ i, i < len → u.cell? ⟨g, off + i, none⟩ = some (.int .u8 (z i)) by
    intro i hi
    rw [ho.cell (by show g ≠ _; omega)]
    have := KV.out i hi
    go_simp)
  obtain ⟨t0, t1, tf⟩ := hs'
  clear ho KV
  obtain ⟨c0, c1, c2, c3, c4, f0, f1, f2, f3, f4⟩ := F5.out
  clear F5
  go_wp2_with fail
  go_quiet ((go_at_call 91; refine Calls.quiet_of_same (bears_still HNB.out _)))
  go_wp2_with fail
  refine (bears_is HNB.out _).mono ?_
  rintro e u1 ⟨rfl, hW⟩
  have hg2 : g < u.heap.size := by omega
  have F5 : Five u1 w.heap.size 0 0 0 0 0 := by rw [← hW]; clear hW; constructor <;> go_simp
  have G5 : Five u1 (w.heap.size + 1 + 1) p 0 (1) 0 0 := by rw [← hW]; clear hW; constructor <;> go_simp
  have S2 : Src (w.heap.size + 1) (.slice (some ⟨g, off, none⟩) len cap) (p + 1) u1 := by rw [← hW]; clear hW; constructor <;> go_simp
  have hsz1 : u1.heap.size = w.heap.size + 1 + 1 + 1 := by rw [← hW]; simp [hsz]
  have HB1 := Lib.hid (show Below w.heap.size w u1 by
    rw [← hW]
    repeat (first | (with_reducible exact HB.out) | (with_reducible refine below_drewN _ ?_) | (with_reducible refine Below.setCell ?_ (by first | omega | (simp; done) | (simp; omega)) _) | (with_reducible refine Below.alloc ?_ (by first | omega | (simp; done) | (simp; omega)) _)))
  have KU1 := Lib.hid (show ∀ i, i < len → u1.cell? ⟨g, off + i, none⟩ = some (.int .u8 (z i)) by
    intro i hi
    rw [← hW]
    exact (World.cell?_alloc_past _ _ _ hg2).trans (KU.out i hi))
  clear hW c0 c1 c2 c3 c4 f0 f1 f2 f3 f4 t0 t1 tf KU HB hg2 hsz
  obtain ⟨t0, t1, tf⟩ := S2
  obtain ⟨c0, c1, c2, c3, c4, f0, f1, f2, f3, f4⟩ := F5
  obtain ⟨s0, s1, s2, s3, s4, g0, g1, g2, g3, g4⟩ := G5
  go_wp2_with fail
  refine (byte_any (w.heap.size + 1) g off len cap (p + 1) (z (p + 1)) _ (by omega) (by omega) (by omega) hl (HZ.out (p + 1) (by omega)).1 (HZ.out (p + 1) (by omega)).2 ⟨t0, t1, tf⟩ ?_).mono ?_
  · rw [show ((p : Int) + 1).toNat = p + 1 by omega]
    exact KU1.out (p + 1) (by omega)
  rintro e u2 ⟨rfl, hs', ho⟩
  have F5 := Five.only (b := w.heap.size) ⟨c0, c1, c2, c3, c4, f0, f1, f2, f3, f4⟩ ho (by omega)
  have G5 := Five.only (b := w.heap.size + 1 + 1) ⟨s0, s1, s2, s3, s4, g0, g1, g2, g3, g4⟩ ho (by omega)
  have hsz2 : u2.heap.size = w.heap.size + 1 + 1 + 1 := by rw [ho.size]; exact hsz1
  have HB2 := Lib.hid (show Below w.heap.size w u2 from ho.below HB1.out (by omega))
  have KU2 := Lib.hid (show ∀ i, i < len → u2.cell? ⟨g, off + i, none⟩ = some (.int .u8 (z i)) from fun i hi => by
    rw [ho.cell (by show g ≠ _; omega)]
    exact KU1.out i hi)
  clear c0 c1 c2 c3 c4 f0 f1 f2 f3 f4 t0 t1 tf s0 s1 s2 s3 s4 g0 g1 g2 g3 g4 ho KU1 HB1 hsz1
  obtain ⟨t0, t1, tf⟩ := hs'
  rw [show (p : Int) + 1 + 1 = (p : Int) + 2 by omega] at t1
  obtain ⟨c0, c1, c2, c3, c4, f0, f1, f2, f3, f4⟩ := F5
  obtain ⟨s0, s1, s2, s3, s4, g0, g1, g2, g3, g4⟩ := G5
  go_wp2_with fail
  refine (number_any (w.heap.size + 1) g off len cap (p + 2) z _ (by omega) (by omega) hl HZ.out ?_ ?_).mono ?_
  · rw [show ((p + 2 : Nat) : Int) = (p : Int) + 2 by omega]
    constructor <;> go_simp
  · intro i hi
    rw [(Only.set (w.heap.size + 1 + 1) _ u2 _).cell (by show g ≠ _; omega)]
    exact KU2.out i hi
  rintro e u3 ⟨rfl, hs', ho⟩
  have F5 := Five.only (b := w.heap.size) (a0 := 0) (a1 := 0) (a2 := 0) (a3 := 0) (a4 := 0) (by constructor <;> go_simp) ho (by omega)
  have G5 := Five.only (b := w.heap.size + 1 + 1) (a0 := p) (a1 := 0) (a2 := 1) (a3 := z (p + 1)) (a4 := 0) (by constructor <;> go_simp) ho (by omega)
  have hsz3 : u3.heap.size = w.heap.size + 1 + 1 + 1 := by rw [ho.size]; simp [hsz2]
  have HB3 := Lib.hid (show Below w.heap.size w u3 by
    refine ho.below ?_ (by omega)
    repeat (first | (with_reducible exact HB2.out) | (with_reducible refine below_drewN _ ?_) | (with_reducible refine Below.setCell ?_ (by first | omega | (simp; done) | (simp; omega)) _) | (with_reducible refine Below.alloc ?_ (by first | omega | (simp; done) | (simp; omega)) _)))
  clear c0 c1 c2 c3 c4 f0 f1 f2 f3 f4 t0 t1 tf s0 s1 s2 s3 s4 g0 g1 g2 g3 g4 ho KU2 HB2 hsz2
  obtain ⟨t0, t1, tf⟩ := hs'
  rw [show ((p + 2 : Nat) : Int) + 8 = (p : Int) + 10 by omega] at t1
  obtain ⟨c0, c1, c2, c3, c4, f0, f1, f2, f3, f4⟩ := F5
  obtain ⟨s0, s1, s2, s3, s4, g0, g1, g2, g3, g4⟩ := G5
  generalize hnn : wrap64 (numK z (p + 2) 8) = nn at *
  have HNN := Lib.hid hnn
  clear hnn
  go_wp2
  refine bodyPost_ret (v := opT p (p + 10) 1 (z (p + 1)) nn 0) ((fun (W : World) (h : Cells5 W w.heap.size p (p + 10) 1 (z (p + 1)) nn) => (by obtain ⟨c0, c1, c2, c3, c4⟩ := h; simp [results, Tryd.results74, go_sem, opT, c0, c1, c2, c3, c4] : (results _ _).run _ W = .ok _ W)) _ ?_) rfl ⟨by rw [HNN.out], ?_⟩
  · constructor <;> go_simp
  repeat (first | (with_reducible exact HB3.out) | (with_reducible refine below_drewN _ ?_) | (with_reducible refine Below.setCell ?_ (by first | omega | (simp; done) | (simp; omega)) _) | (with_reducible refine Below.alloc ?_ (by first | omega | (simp; done) | (simp; omega)) _))
end Go.Proofs.YtngobbbinacomaaDoor.c10
/- Chapter 10: Read, whole. -/
namespace Go.Proofs.YtngobbbinacomaaDoor.c10
open Go.Proofs.YtngobbbinacomaaDoor
open Go.RowKit
set_option linter.unusedVariables false
set_option linter.unusedSimpArgs false
theorem bearsN_ways (s : Int) : (bearsN s = 0 ∧ s ≠ 1) ∨ (bearsN s = 1 ∧ s ≠ 1) ∨ (bearsN s = 9 ∧ s = 1) := by
  unfold bearsN
  split
  · omega
  · split <;> omega
/-- What Read tells: an instruction's five numbers, and how it ended. -/
def rd (z : Nat → Int) (len : Nat) (p : Int) : (Int × Int × Int × Int × Int) × Int :=
  if p < 0 ∨ (len : Int) ≤ p then ((0, 0, 0, 0, 0), 12)
  else if 29 < z p.toNat then ((0, 0, 0, 0, 0), 10)
  else if (len : Int) - (p + 1) < bearsN (z p.toNat) then ((0, 0, 0, 0, 0), 8)
  else ((p, p + 1 + bearsN (z p.toNat), z p.toNat, if 0 < bearsN (z p.toNat) then z (p.toNat + 1) else 0, if z p.toNat = 1 then wrap64 (numK z (p.toNat + 2) 8) else 0), 0)
/-- As a value. -/
def rdV (r : (Int × Int × Int × Int × Int) × Int) : Value := opT r.1.1 r.1.2.1 r.1.2.2.1 r.1.2.2.2.1 r.1.2.2.2.2 r.2
theorem read_any (A : Option Addr) (len cap : Nat) (z : Nat → Int) (p : Int) (w : World) (c : Came w A len cap fun j => .int .u8 (z j)) (hl : (len : Int) ≤ 4611686018427387904) (hz : ∀ i, i < len → 0 ≤ z i ∧ z i < 256) :
    Calls Tryd.prog 74 #[.slice A len cap, .int .i64 p] w fun e w' => e = .returned (rdV (rd z len p)) ∧ Below w.heap.size w w' := by
  by_cases h0 : p < 0
  · have : rd z len p = ((0, 0, 0, 0, 0), 12) := by simp [rd, h0]
    rw [this]
    exact read_out_lo A len cap p w h0 hl
  by_cases h1 : (len : Int) ≤ p
  · have : rd z len p = ((0, 0, 0, 0, 0), 12) := by simp [rd, h1]
    rw [this]
    exact read_out_hi A len cap p w (by omega) h1 hl
  obtain ⟨q, rfl⟩ : ∃ q : Nat, p = q := ⟨p.toNat, by omega⟩
  have hq : q < len := by omega
  obtain ⟨b, off, rfl, hb, kv⟩ := c.at_ (by omega)
  have ht : ((q : Int)).toNat = q := by omega
  have hn : ¬ ((q : Int) < 0 ∨ (len : Int) ≤ q) := by omega
  by_cases h2 : 29 < z q
  · have : rd z len q = ((0, 0, 0, 0, 0), 10) := by simp only [rd, ht, if_neg hn, if_pos h2]
    rw [this]
    exact read_bad b off len cap q z w hb hq hl hz kv h2
  have h2' : z q ≤ 29 := by omega
  have hw := bearsN_ways (z q)
  by_cases h3 : (len : Int) - (q + 1) < bearsN (z q)
  · have : rd z len q = ((0, 0, 0, 0, 0), 8) := by simp only [rd, ht, if_neg hn, if_neg h2, if_pos h3]
    rw [this]
    exact read_cut b off len cap q z w hb hq hl hz kv h2' h3 (by omega)
  have hr : rd z len q = (((q : Int), q + 1 + bearsN (z q), z q, if 0 < bearsN (z q) then z (q + 1) else 0, if z q = 1 then wrap64 (numK z (q + 2) 8) else 0), 0) := by
    simp only [rd, ht, if_neg hn, if_neg h2, if_neg h3]
  rw [hr]
  rcases hw with ⟨h4, h5⟩ | ⟨h4, h5⟩ | ⟨h4, h5⟩
  · rw [h4, if_neg h5, if_neg (by omega)]
    have := read_bare b off len cap q z w hb hq hl hz kv h2' h4 (by simpa using h5)
    simpa [rdV] using this
  · rw [h4, if_neg h5, if_pos (by omega)]
    have := read_one b off len cap q z w hb hq hl hz kv h2' (by omega) h4 (by simpa using h5)
    rw [show (q : Int) + 2 = q + 1 + 1 by omega] at this
    simpa [rdV] using this
  · rw [h4, if_pos h5, if_pos (by omega), h5]
    have := read_push b off len cap q z w hb hq hl hz kv h5 (by omega)
    rw [show (q : Int) + 10 = q + 1 + 9 by omega] at this
    simpa [rdV] using this
end Go.Proofs.YtngobbbinacomaaDoor.c10
/- Chapter 10: a number's bytes, from the low end and from the high one. Plain. -/
namespace Go.Proofs.YtngobbbinacomaaDoor.c10
open Go.Proofs.YtngobbbinacomaaDoor
open Go.RowKit
set_option linter.unusedVariables false
set_option linter.unusedSimpArgs false
theorem nat_or64 (a b : Nat) (ha : a < 2 ^ 64) (hb : b < 2 ^ 64) : bits BinOp.or IntKind.u64 (a : Int) (b : Int) = ((a ||| b : Nat) : Int) := by
  show IntKind.u64.wrap ((BitVec.ofInt 64 a ||| BitVec.ofInt 64 b).toNat : Int) = _
  have h : a ||| b < 2 ^ 64 := Nat.or_lt_two_pow ha hb
  rw [BitVec.ofInt_natCast, BitVec.ofInt_natCast, BitVec.toNat_or, BitVec.toNat_ofNat, BitVec.toNat_ofNat, Nat.mod_eq_of_lt (by omega), Nat.mod_eq_of_lt (by omega)]
  generalize a ||| b = c at *
  exact wrap_u64 (c : Int) (by omega) (by omega)
/-- What n bytes from q on make, the low one first. -/
def valN (y : Nat → Nat) (q : Nat) : Nat → Nat
  | 0 => 0
  | n + 1 => valN y q n + y (q + n) * 2 ^ (8 * n)
theorem valN_lt (y : Nat → Nat) (q : Nat) : ∀ n, (∀ i, i < n → y (q + i) < 256) → valN y q n < 2 ^ (8 * n) := by
  intro n
  induction n with
  | zero => intro _; simp [valN]
  | succ n ih =>
    intro h
    have h1 := ih fun i hi => h i (by omega)
    have h2 := h n (by omega)
    have h3 : y (q + n) * 2 ^ (8 * n) ≤ 255 * 2 ^ (8 * n) := Nat.mul_le_mul_right _ (by omega)
    have h4 : 2 ^ (8 * (n + 1)) = 256 * 2 ^ (8 * n) := by rw [show 8 * (n + 1) = 8 + 8 * n by omega, Nat.pow_add]
    simp only [valN]
    omega
theorem numK_val (z : Nat → Int) (y : Nat → Nat) (q : Nat) : ∀ k, k ≤ 8 → (∀ i, i < k → z (q + i) = (y (q + i) : Int) ∧ y (q + i) < 256) → numK z q k = (valN y q k : Int) := by
  intro k
  induction k with
  | zero => intro _ _; rfl
  | succ k ih =>
    intro hk h
    have h1 := ih (by omega) fun i hi => h i (by omega)
    obtain ⟨h2, h3⟩ := h k (by omega)
    have hlt := valN_lt y q k fun i hi => (h i (by omega)).2
    have hp : (2 : Nat) ^ (8 * k) ≤ 2 ^ 56 := Nat.pow_le_pow_right (by omega) (by omega)
    have hm : y (q + k) * 2 ^ (8 * k) ≤ 255 * 2 ^ (8 * k) := Nat.mul_le_mul_right _ (by omega)
    have hw : IntKind.u64.wrap (z (q + k) * 2 ^ (8 * k)) = ((y (q + k) * 2 ^ (8 * k) : Nat) : Int) := by
      rw [h2]
      have : ((y (q + k) : Int) * 2 ^ (8 * k)) = ((y (q + k) * 2 ^ (8 * k) : Nat) : Int) := by simp
      rw [this]
      exact wrap_u64 _ (by omega) (by omega)
    simp only [numK, valN]
    rw [h1, hw, nat_or64 _ _ (by omega) (by omega), Nat.or_comm, ← Nat.shiftLeft_eq, ← Nat.shiftLeft_add_eq_or_of_lt hlt, Nat.shiftLeft_eq, Nat.add_comm]
/-- The same, from the high end: after j bytes of eight. -/
def refK (z : Nat → Int) (q : Nat) : Nat → Int
  | 0 => 0
  | j + 1 => bits .or .u64 (IntKind.u64.wrap (refK z q j * 256)) (z (q + (7 - j)))
def topN (y : Nat → Nat) (q : Nat) : Nat → Nat
  | 0 => 0
  | j + 1 => topN y q j * 256 + y (q + (7 - j))
theorem topN_lt (y : Nat → Nat) (q : Nat) (h : ∀ i, i < 8 → y (q + i) < 256) : ∀ j, topN y q j < 2 ^ (8 * j) := by
  intro j
  induction j with
  | zero => simp [topN]
  | succ j ih =>
    have h2 := h (7 - j) (by omega)
    have h4 : 2 ^ (8 * (j + 1)) = 256 * 2 ^ (8 * j) := by rw [show 8 * (j + 1) = 8 + 8 * j by omega, Nat.pow_add]
    simp only [topN]
    omega
theorem refK_val (z : Nat → Int) (y : Nat → Nat) (q : Nat) (h : ∀ i, i < 8 → z (q + i) = (y (q + i) : Int) ∧ y (q + i) < 256) : ∀ j, j ≤ 8 → refK z q j = (topN y q j : Int) := by
  intro j
  induction j with
  | zero => intro _; rfl
  | succ j ih =>
    intro hj
    have h1 := ih (by omega)
    obtain ⟨h2, h3⟩ := h (7 - j) (by omega)
    have hlt := topN_lt y q (fun i hi => (h i hi).2) j
    have hp : (2 : Nat) ^ (8 * j) ≤ 2 ^ 56 := Nat.pow_le_pow_right (by omega) (by omega)
    have hw : IntKind.u64.wrap ((topN y q j : Int) * 256) = ((topN y q j * 256 : Nat) : Int) := by
      rw [wrap_u64 _ (by omega) (by omega)]
      simp
    simp only [refK, topN]
    rw [h1, hw, h2, nat_or64 _ _ (by omega) (by omega)]
    have := Nat.shiftLeft_add_eq_or_of_lt (i := 8) h3 (topN y q j)
    rw [Nat.shiftLeft_eq] at this
    rw [← this]
/-- Both ends make the same number. -/
theorem refK_is (z : Nat → Int) (q : Nat) (h : ∀ i, i < 8 → 0 ≤ z (q + i) ∧ z (q + i) < 256) : refK z q 8 = numK z q 8 := by
  have hy : ∀ i, i < 8 → z (q + i) = (((fun i => (z i).toNat) (q + i) : Nat) : Int) ∧ (fun i => (z i).toNat) (q + i) < 256 := fun i hi => by
    have := h i hi
    simp only
    omega
  rw [refK_val z (fun i => (z i).toNat) q hy 8 (by omega), numK_val z (fun i => (z i).toNat) q 8 (by omega) hy]
  simp only [topN, valN]
  congr 1
  simp
  omega
end Go.Proofs.YtngobbbinacomaaDoor.c10
/- Chapter 10: a row of instructions, as it lies; cloned. -/
namespace Go.Proofs.YtngobbbinacomaaDoor.c10
open Go.Proofs.YtngobbbinacomaaDoor
open Go.RowKit
set_option linter.unusedVariables false
set_option linter.unusedSimpArgs false
end Go.Proofs.YtngobbbinacomaaDoor.c10
/- Chapter 10: All. -/
namespace Go.Proofs.YtngobbbinacomaaDoor.c10
open Go.Proofs.YtngobbbinacomaaDoor
open Go.RowKit
set_option linter.unusedVariables false
set_option linter.unusedSimpArgs false
end Go.Proofs.YtngobbbinacomaaDoor.c10
/- Chapter 10: the document's Read. -/
namespace Go.Proofs.YtngobbbinacomaaDoor.c10
open Go.Proofs.YtngobbbinacomaaDoor
open Go.RowKit
set_option linter.unusedVariables false
set_option linter.unusedSimpArgs false
set_option maxHeartbeats 4000000 in
theorem rbears_any (s : Int) (w : World) : Calls Tryd.prog 47 #[.int .i64 s] w fun e w' => e = .returned (.int .i64 (bearsN s)) ∧ w = w' := by
  go_enter Tryd.func47, Tryd.ntmps47
  go_wp2
  all_goals (go_ret; refine ⟨bret ?_, rfl⟩; unfold bearsN; first | (subst_vars; rfl) | (simp_all; done) | (simp_all; omega))
theorem rbears_is {s n : Int} (h : bearsN s = n) (w : World) : Calls Tryd.prog 47 #[.int .i64 s] w fun e w' => e = .returned (.int .i64 n) ∧ w = w' := h ▸ rbears_any s w
set_option maxHeartbeats 2000000 in
theorem rread_lo (S : Option Addr) (len cap : Nat) (p : Int) (w : World) (hp : p < 0) (hl : (len : Int) ≤ 4611686018427387904) :
    Calls Tryd.prog 55 #[.slice S len cap, .int .i64 p] w fun e w' => e = .returned (opT 0 0 0 0 0 12) ∧ Below w.heap.size w w' := by
  go_enter Tryd.func55, Tryd.ntmps55
  go_wp2
  refine bodyPost_ret (v := opT 0 0 0 0 0 12) ((fun (W : World) (h : Cells5 W w.heap.size 0 0 0 0 0) => (by obtain ⟨c0, c1, c2, c3, c4⟩ := h; simp [results, Tryd.results55, go_sem, opT, c0, c1, c2, c3, c4] : (results _ _).run _ W = .ok _ W)) _ ?_) rfl ⟨rfl, ?_⟩
  · constructor <;> go_simp
  repeat (first | (with_reducible exact Below.refl _ _) | (with_reducible refine below_drewN _ ?_) | (with_reducible refine Below.setCell ?_ (by first | omega | (simp; done) | (simp; omega)) _) | (with_reducible refine Below.alloc ?_ (by first | omega | (simp; done) | (simp; omega)) _))
set_option maxHeartbeats 2000000 in
theorem rread_hi (S : Option Addr) (len cap : Nat) (p : Int) (w : World) (hp : 0 ≤ p) (hp' : (len : Int) ≤ p) (hl : (len : Int) ≤ 4611686018427387904) :
    Calls Tryd.prog 55 #[.slice S len cap, .int .i64 p] w fun e w' => e = .returned (opT 0 0 0 0 0 12) ∧ Below w.heap.size w w' := by
  have h0 : ¬ p < 0 := by omega
  go_enter Tryd.func55, Tryd.ntmps55
  go_wp2
  refine bodyPost_ret (v := opT 0 0 0 0 0 12) ((fun (W : World) (h : Cells5 W w.heap.size 0 0 0 0 0) => (by obtain ⟨c0, c1, c2, c3, c4⟩ := h; simp [results, Tryd.results55, go_sem, opT, c0, c1, c2, c3, c4] : (results _ _).run _ W = .ok _ W)) _ ?_) rfl ⟨rfl, ?_⟩
  · constructor <;> go_simp
  repeat (first | (with_reducible exact Below.refl _ _) | (with_reducible refine below_drewN _ ?_) | (with_reducible refine Below.setCell ?_ (by first | omega | (simp; done) | (simp; omega)) _) | (with_reducible refine Below.alloc ?_ (by first | omega | (simp; done) | (simp; omega)) _))
set_option maxHeartbeats 8000000 in
theorem rread_bad (g off len cap p : Nat) (z : Nat → Int) (w : World) (hg : g < w.heap.size) (hp : p < len) (hl : (len : Int) ≤ 4611686018427387904) (hz : ∀ i, i < len → 0 ≤ z i ∧ z i < 256)
    (kv : ∀ i, i < len → w.cell? ⟨g, off + i, none⟩ = some (.int .u8 (z i))) (hs : 29 < z p) :
    Calls Tryd.prog 55 #[.slice (some ⟨g, off, none⟩) len cap, .int .i64 p] w fun e w' => e = .returned (opT 0 0 0 0 0 10) ∧ Below w.heap.size w w' := by
  have HZ := Lib.hid hz
  have KV := Lib.hid kv
  clear hz kv
  have hp0 : ¬ (p : Int) < 0 := by omega
  have hp1 : ¬ (len : Int) ≤ p := by omega
  have hpt : ((p : Int)).toNat = p := by omega
  have q0 := KV.out p hp
  have z0 := (HZ.out p hp).1
  have z1 := (HZ.out p hp).2
  go_enter Tryd.func55, Tryd.ntmps55
  go_wp2
  refine bodyPost_ret (v := opT 0 0 0 0 0 10) ((fun (W : World) (h : Cells5 W w.heap.size 0 0 0 0 0) => (by obtain ⟨c0, c1, c2, c3, c4⟩ := h; simp [results, Tryd.results55, go_sem, opT, c0, c1, c2, c3, c4] : (results _ _).run _ W = .ok _ W)) _ ?_) rfl ⟨rfl, ?_⟩
  · constructor <;> go_simp
  repeat (first | (with_reducible exact Below.refl _ _) | (with_reducible refine below_drewN _ ?_) | (with_reducible refine Below.setCell ?_ (by first | omega | (simp; done) | (simp; omega)) _) | (with_reducible refine Below.alloc ?_ (by first | omega | (simp; done) | (simp; omega)) _))
set_option maxHeartbeats 8000000 in
theorem rread_cut (g off len cap p : Nat) (z : Nat → Int) (w : World) (hg : g < w.heap.size) (hp : p < len) (hl : (len : Int) ≤ 4611686018427387904) (hz : ∀ i, i < len → 0 ≤ z i ∧ z i < 256)
    (kv : ∀ i, i < len → w.cell? ⟨g, off + i, none⟩ = some (.int .u8 (z i))) (hs : z p ≤ 29) (hc : (len : Int) - (p + 1) < bearsN (z p)) (hn : 0 ≤ bearsN (z p)) (hn9 : bearsN (z p) ≤ 9) :
    Calls Tryd.prog 55 #[.slice (some ⟨g, off, none⟩) len cap, .int .i64 p] w fun e w' => e = .returned (opT 0 0 0 0 0 8) ∧ Below w.heap.size w w' := by
  have HZ := Lib.hid hz
  have KV := Lib.hid kv
  clear hz kv
  have hp0 : ¬ (p : Int) < 0 := by omega
  have hp1 : ¬ (len : Int) ≤ p := by omega
  have hpt : ((p : Int)).toNat = p := by omega
  have q0 := KV.out p hp
  have z0 := (HZ.out p hp).1
  have z1 := (HZ.out p hp).2
  have hs1 : ¬ 29 < z p := by omega
  generalize hnb : bearsN (z p) = nb at *
  have HNB := Lib.hid hnb
  have hc' : (len : Int) - p - 1 < nb := by omega
  clear hnb hc
  go_enter Tryd.func55, Tryd.ntmps55
  go_wp2_with fail
  refine (rbears_is HNB.out _).mono ?_
  rintro e _ ⟨rfl, rfl⟩
  go_wp2
  refine bodyPost_ret (v := opT 0 0 0 0 0 8) ((fun (W : World) (h : Cells5 W w.heap.size 0 0 0 0 0) => (by obtain ⟨c0, c1, c2, c3, c4⟩ := h; simp [results, Tryd.results55, go_sem, opT, c0, c1, c2, c3, c4] : (results _ _).run _ W = .ok _ W)) _ ?_) rfl ⟨rfl, ?_⟩
  · constructor <;> go_simp
  repeat (first | (with_reducible exact Below.refl _ _) | (with_reducible refine below_drewN _ ?_) | (with_reducible refine Below.setCell ?_ (by first | omega | (simp; done) | (simp; omega)) _) | (with_reducible refine Below.alloc ?_ (by first | omega | (simp; done) | (simp; omega)) _))
set_option maxHeartbeats 8000000 in
theorem rread_bare (g off len cap p : Nat) (z : Nat → Int) (w : World) (hg : g < w.heap.size) (hp : p < len) (hl : (len : Int) ≤ 4611686018427387904) (hz : ∀ i, i < len → 0 ≤ z i ∧ z i < 256)
    (kv : ∀ i, i < len → w.cell? ⟨g, off + i, none⟩ = some (.int .u8 (z i))) (hs : z p ≤ 29) (hc : bearsN (z p) = 0) :
    Calls Tryd.prog 55 #[.slice (some ⟨g, off, none⟩) len cap, .int .i64 p] w fun e w' => e = .returned (opT p (p + 1) (z p) 0 0 0) ∧ Below w.heap.size w w' := by
  have HZ := Lib.hid hz
  have KV := Lib.hid kv
  clear hz kv
  have hp0 : ¬ (p : Int) < 0 := by omega
  have hp1 : ¬ (len : Int) ≤ p := by omega
  have hpt : ((p : Int)).toNat = p := by omega
  have q0 := KV.out p hp
  have z0 := (HZ.out p hp).1
  have z1 := (HZ.out p hp).2
  have hs1 : ¬ 29 < z p := by omega
  have HNB := Lib.hid hc
  have hd : ¬ (len : Int) - p - 1 < 0 := by omega
  clear hc
  go_enter Tryd.func55, Tryd.ntmps55
  go_wp2_with fail
  refine (rbears_is HNB.out _).mono ?_
  rintro e _ ⟨rfl, rfl⟩
  go_wp2
  refine bodyPost_ret (v := opT p (p + 1) (z p) 0 0 0) ((fun (W : World) (h : Cells5 W w.heap.size p (p + 1) (z p) 0 0) => (by obtain ⟨c0, c1, c2, c3, c4⟩ := h; simp [results, Tryd.results55, go_sem, opT, c0, c1, c2, c3, c4] : (results _ _).run _ W = .ok _ W)) _ ?_) rfl ⟨rfl, ?_⟩
  · constructor <;> go_simp
  repeat (first | (with_reducible exact Below.refl _ _) | (with_reducible refine below_drewN _ ?_) | (with_reducible refine Below.setCell ?_ (by first | omega | (simp; done) | (simp; omega)) _) | (with_reducible refine Below.alloc ?_ (by first | omega | (simp; done) | (simp; omega)) _))
set_option maxHeartbeats 8000000 in
theorem rread_one (g off len cap p : Nat) (z : Nat → Int) (w : World) (hg : g < w.heap.size) (hp : p < len) (hl : (len : Int) ≤ 4611686018427387904) (hz : ∀ i, i < len → 0 ≤ z i ∧ z i < 256)
    (kv : ∀ i, i < len → w.cell? ⟨g, off + i, none⟩ = some (.int .u8 (z i))) (hs : z p ≤ 29) (hq : p + 1 < len) (hc : bearsN (z p) = 1) :
    Calls Tryd.prog 55 #[.slice (some ⟨g, off, none⟩) len cap, .int .i64 p] w fun e w' => e = .returned (opT p (p + 2) (z p) (z (p + 1)) 0 0) ∧ Below w.heap.size w w' := by
  have HZ := Lib.hid hz
  have KV := Lib.hid kv
  clear hz kv
  have hp0 : ¬ (p : Int) < 0 := by omega
  have hp1 : ¬ (len : Int) ≤ p := by omega
  have hpt : ((p : Int)).toNat = p := by omega
  have q0 := KV.out p hp
  have z0 := (HZ.out p hp).1
  have z1 := (HZ.out p hp).2
  have hs1 : ¬ 29 < z p := by omega
  have HNB := Lib.hid hc
  have hd : ¬ (len : Int) - p - 1 < 1 := by omega
  have q1 := KV.out (p + 1) hq
  have y0 := (HZ.out (p + 1) hq).1
  have y1 := (HZ.out (p + 1) hq).2
  have hpt1 : ((p : Int) + 1).toNat = p + 1 := by omega
  have hp2 : (p : Int) + 1 < len := by omega
  clear hc
  go_enter Tryd.func55, Tryd.ntmps55
  go_wp2_with fail
  refine (rbears_is HNB.out _).mono ?_
  rintro e _ ⟨rfl, rfl⟩
  go_wp2
  refine bodyPost_ret (v := opT p (p + 1 + 1) (z p) (z (p + 1)) 0 0) ((fun (W : World) (h : Cells5 W w.heap.size p (p + 1 + 1) (z p) (z (p + 1)) 0) => (by obtain ⟨c0, c1, c2, c3, c4⟩ := h; simp [results, Tryd.results55, go_sem, opT, c0, c1, c2, c3, c4] : (results _ _).run _ W = .ok _ W)) _ ?_) rfl ⟨by rw [show (p : Int) + 1 + 1 = p + 2 by omega], ?_⟩
  · constructor <;> go_simp
  repeat (first | (with_reducible exact Below.refl _ _) | (with_reducible refine below_drewN _ ?_) | (with_reducible refine Below.setCell ?_ (by first | omega | (simp; done) | (simp; omega)) _) | (with_reducible refine Below.alloc ?_ (by first | omega | (simp; done) | (simp; omega)) _))
set_option maxHeartbeats 8000000 in
theorem rread_push (g off len cap p : Nat) (z : Nat → Int) (w : World) (hg : g < w.heap.size) (hp : p < len) (hl : (len : Int) ≤ 4611686018427387904) (hz : ∀ i, i < len → 0 ≤ z i ∧ z i < 256)
    (kv : ∀ i, i < len → w.cell? ⟨g, off + i, none⟩ = some (.int .u8 (z i))) (hs : z p = 1) (hq : p + 9 < len) :
    Calls Tryd.prog 55 #[.slice (some ⟨g, off, none⟩) len cap, .int .i64 p] w fun e w' => e = .returned (opT p (p + 10) 1 (z (p + 1)) (wrap64 (numK z (p + 2) 8)) 0) ∧ Below w.heap.size w w' := by
  have HZ := Lib.hid hz
  have KV := Lib.hid kv
  clear hz kv
  have hp0 : ¬ (p : Int) < 0 := by omega
  have hp1 : ¬ (len : Int) ≤ p := by omega
  have hpt : ((p : Int)).toNat = p := by omega
  have q0 := KV.out p hp
  have z0 := (HZ.out p hp).1
  have z1 := (HZ.out p hp).2
  have HNB := Lib.hid (show bearsN 1 = 9 from rfl)
  have hd : ¬ (len : Int) - p - 1 < 9 := by omega
  have q1 := KV.out (p + 1) (by omega)
  have y0 := (HZ.out (p + 1) (by omega)).1
  have y1 := (HZ.out (p + 1) (by omega)).2
  have hpt1 : ((p : Int) + 1).toNat = p + 1 := by omega
  have hp2 : (p : Int) + 1 < len := by omega
  go_enter Tryd.func55, Tryd.ntmps55
  go_wp2_with fail
  refine (rbears_is HNB.out _).mono ?_
  rintro e _ ⟨rfl, rfl⟩
  go_wp2_with fail
  clear q0 q1
  go_loop [8, 9] (fun u i => ∃ m : Nat, m ≤ 8 ∧ i = .int .i64 ((m : Int) - 1) ∧ u = .int .u64 (refK z (p + 2) (8 - m))) (fun _ i => (intOf i + 1).toNat)
  case atStart => exact ⟨8, by omega, rfl, rfl⟩
  case round =>
    obtain ⟨m, hm, rfl, rfl⟩ := hrel
    cases m with
    | zero =>
      have hlt : ¬ (0 : Int) ≤ ((0 : Nat) : Int) - 1 := by omega
      obtain ⟨nn, hnn⟩ : ∃ nn, wrap64 (numK z (p + 2) 8) = nn := ⟨_, rfl⟩
      have hk : wrap64 (refK z (p + 2) 8) = nn := by rw [refK_is z (p + 2) fun i hi => HZ.out _ (by omega)]; exact hnn
      have HNN := Lib.hid hnn
      clear hnn
      go_wp2
      refine bodyPost_ret (v := opT p (p + 1 + 9) 1 (z (p + 1)) nn 0) ((fun (W : World) (h : Cells5 W w.heap.size p (p + 1 + 9) 1 (z (p + 1)) nn) => (by obtain ⟨c0, c1, c2, c3, c4⟩ := h; simp [results, Tryd.results55, go_sem, opT, c0, c1, c2, c3, c4] : (results _ _).run _ W = .ok _ W)) _ ?_) rfl ⟨by rw [HNN.out, show (p : Int) + 1 + 9 = p + 10 by omega], ?_⟩
      · constructor <;> go_simp
      repeat (first | (with_reducible exact Below.refl _ _) | (with_reducible refine below_drewN _ ?_) | (with_reducible refine Below.setCell ?_ (by first | omega | (simp; done) | (simp; omega)) _) | (with_reducible refine Below.alloc ?_ (by first | omega | (simp; done) | (simp; omega)) _))
    | succ m =>
      have q := KV.out (p + 2 + m) (by omega)
      have y2 := (HZ.out (p + 2 + m) (by omega)).1
      have y3 := (HZ.out (p + 2 + m) (by omega)).2
      have hi : (((m + 1 : Nat) : Int) - 1) = m := by omega
      have hpt2 : ((p : Int) + 2 + m).toNat = p + 2 + m := by omega
      have hp3 : (p : Int) + 2 + m < len := by omega
      have hm' : (m : Int) ≤ 7 := by omega
      rw [hi]
      clear hi
      go_wp2
      go_round
      case rel =>
        refine ⟨m, by omega, rfl, ?_⟩
        have h1 : 8 - m = (8 - (m + 1)) + 1 := by omega
        have h2 : p + 2 + (7 - (8 - (m + 1))) = p + 2 + m := by omega
        rw [h1]
        simp only [refK]
        rw [h2, show 8 - (m + 1) = 7 - m by omega]
      case measure => simp [intOf]
theorem rread_any (A : Option Addr) (len cap : Nat) (z : Nat → Int) (p : Int) (w : World) (c : Came w A len cap fun j => .int .u8 (z j)) (hl : (len : Int) ≤ 4611686018427387904) (hz : ∀ i, i < len → 0 ≤ z i ∧ z i < 256) :
    Calls Tryd.prog 55 #[.slice A len cap, .int .i64 p] w fun e w' => e = .returned (rdV (rd z len p)) ∧ Below w.heap.size w w' := by
  by_cases h0 : p < 0
  · have : rd z len p = ((0, 0, 0, 0, 0), 12) := by simp [rd, h0]
    rw [this]
    exact rread_lo A len cap p w h0 hl
  by_cases h1 : (len : Int) ≤ p
  · have : rd z len p = ((0, 0, 0, 0, 0), 12) := by simp [rd, h1]
    rw [this]
    exact rread_hi A len cap p w (by omega) h1 hl
  obtain ⟨q, rfl⟩ : ∃ q : Nat, p = q := ⟨p.toNat, by omega⟩
  have hq : q < len := by omega
  obtain ⟨b, off, rfl, hb, kv⟩ := c.at_ (by omega)
  have ht : ((q : Int)).toNat = q := by omega
  have hn : ¬ ((q : Int) < 0 ∨ (len : Int) ≤ q) := by omega
  by_cases h2 : 29 < z q
  · have : rd z len q = ((0, 0, 0, 0, 0), 10) := by simp only [rd, ht, if_neg hn, if_pos h2]
    rw [this]
    exact rread_bad b off len cap q z w hb hq hl hz kv h2
  have h2' : z q ≤ 29 := by omega
  have hw := bearsN_ways (z q)
  by_cases h3 : (len : Int) - (q + 1) < bearsN (z q)
  · have : rd z len q = ((0, 0, 0, 0, 0), 8) := by simp only [rd, ht, if_neg hn, if_neg h2, if_pos h3]
    rw [this]
    exact rread_cut b off len cap q z w hb hq hl hz kv h2' h3 (by omega) (by omega)
  have hr : rd z len q = (((q : Int), q + 1 + bearsN (z q), z q, if 0 < bearsN (z q) then z (q + 1) else 0, if z q = 1 then wrap64 (numK z (q + 2) 8) else 0), 0) := by
    simp only [rd, ht, if_neg hn, if_neg h2, if_neg h3]
  rw [hr]
  rcases hw with ⟨h4, h5⟩ | ⟨h4, h5⟩ | ⟨h4, h5⟩
  · rw [h4, if_neg h5, if_neg (by omega)]
    have := rread_bare b off len cap q z w hb hq hl hz kv h2' h4
    simpa [rdV] using this
  · rw [h4, if_neg h5, if_pos (by omega)]
    have := rread_one b off len cap q z w hb hq hl hz kv h2' (by omega) h4
    rw [show (q : Int) + 2 = q + 1 + 1 by omega] at this
    simpa [rdV] using this
  · rw [h4, if_pos h5, if_pos (by omega), h5]
    have := rread_push b off len cap q z w hb hq hl hz kv h5 (by omega)
    rw [show (q : Int) + 10 = q + 1 + 9 by omega] at this
    simpa [rdV] using this
end Go.Proofs.YtngobbbinacomaaDoor.c10
/- Chapter 10: the document's All; an instruction as the document's. -/
namespace Go.Proofs.YtngobbbinacomaaDoor.c10
open Go.Proofs.YtngobbbinacomaaDoor
open Go.RowKit
set_option linter.unusedVariables false
set_option linter.unusedSimpArgs false
end Go.Proofs.YtngobbbinacomaaDoor.c10
