/- Chapter 10: Read, cut. -/
import Derived.Test.YtngobbbinacomaaDoorVC10
namespace Go.Proofs.YtngobbbinacomaaDoor.c10
open Go.Proofs.YtngobbbinacomaaDoor
open Go.RowKit
set_option linter.unusedVariables false
set_option linter.unusedSimpArgs false
attribute [local go_sem, local simp] setDrewN allocDrewN

set_option maxHeartbeats 30000000 in
theorem read_cut (g off len cap p : Nat) (z : Nat → Int) (w : World) (hg : g < w.heap.size) (hp : p < len) (hl : (len : Int) ≤ 4611686018427387904) (hz : ∀ i, i < len → 0 ≤ z i ∧ z i < 256)
    (kv : ∀ i, i < len → w.cell? ⟨g, off + i, none⟩ = some (.int .u8 (z i))) (hs : z p ≤ 29) (hc : (len : Int) - (p + 1) < bearsN (z p)) (hn : bearsN (z p) ≤ 9) :
    Calls Tryd.prog 74 #[.slice (some ⟨g, off, none⟩) len cap, .int .i64 p] w fun e w' => e = .returned (opT 0 0 0 0 0 8) ∧ Below w.heap.size w w' := by
  have HZ := Lib.hid hz
  have KV := Lib.hid kv
  clear hz kv
  have hp0 : ¬ (p : Int) < 0 := by omega
  have hp1 : ¬ (len : Int) ≤ p := by omega
  have hs1 : ¬ 29 < z p := by omega
  generalize hnb : bearsN (z p) = nb at *
  have HNB := Lib.hid hnb
  clear hnb
  go_enter Tryd.func74, Tryd.ntmps74
  go_wp2_with fail
  refine (byte_any (w.heap.size + 1) g off len cap p (z p) _ (by omega) (by omega) (by omega) hl (HZ.out p hp).1 (HZ.out p hp).2 ?_ ?_).mono ?_
  · constructor <;> go_simp
  · have := KV.out p hp
    go_simp
  rintro e u ⟨rfl, hs', ho⟩
  have F5 := Lib.hid (Five.only (b := w.heap.size) (a0 := 0) (a1 := 0) (a2 := 0) (a3 := 0) (a4 := 0) (by constructor <;> go_simp) ho (by omega))
  have hsz : u.heap.size = w.heap.size + 1 + 1 := by rw [ho.size]; simp
  have HB := Lib.hid (show Below w.heap.size w u by
    refine ho.below ?_ (by omega)
    repeat (first | (with_reducible exact Below.refl _ _) | (with_reducible refine below_drewN _ ?_) | (with_reducible refine Below.setCell ?_ (by first | omega | (simp; done) | (simp; omega)) _) | (with_reducible refine Below.alloc ?_ (by first | omega | (simp; done) | (simp; omega)) _)))
  have KU := Lib.hid (show ∀ i, i < len → u.cell? ⟨g, off + i, none⟩ = some (.int .u8 (z i)) by
    intro i hi
    rw [ho.cell (by show g ≠ _; omega)]
    have := KV.out i hi
    go_simp)
  obtain ⟨t0, t1, tf⟩ := hs'
  clear ho KV
  obtain ⟨c0, c1, c2, c3, c4, f0, f1, f2, f3, f4⟩ := F5.out
  clear F5
  go_wp2_with fail
  go_quiet ((go_at_call 91; refine Calls.quiet_of_same ((show Calls Tryd.prog 91 #[.int .i64 (z p)] _ _ from (bears_any (z p) _).mono fun _ _ h => ⟨h.1.trans (by rw [HNB.out]), h.2.symm⟩))))
  go_wp2
  refine bodyPost_ret (v := opT 0 0 0 0 0 8) ((fun (W : World) (h : Cells5 W w.heap.size 0 0 0 0 0) => (by obtain ⟨c0, c1, c2, c3, c4⟩ := h; simp [results, Tryd.results74, go_sem, opT, c0, c1, c2, c3, c4] : (results _ _).run _ W = .ok _ W)) _ ?_) rfl ⟨rfl, ?_⟩
  · constructor <;> go_simp
  repeat (first | (with_reducible exact HB.out) | (with_reducible refine below_drewN _ ?_) | (with_reducible refine Below.setCell ?_ (by first | omega | (simp; done) | (simp; omega)) _) | (with_reducible refine Below.alloc ?_ (by first | omega | (simp; done) | (simp; omega)) _))
end Go.Proofs.YtngobbbinacomaaDoor.c10
