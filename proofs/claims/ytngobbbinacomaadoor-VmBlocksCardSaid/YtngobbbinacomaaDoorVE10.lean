/- Chapter 10: Read, a bare sign. -/
import Derived.Test.YtngobbbinacomaaDoorVC10
namespace Go.Proofs.YtngobbbinacomaaDoor.c10
open Go.Proofs.YtngobbbinacomaaDoor
open Go.RowKit
set_option linter.unusedVariables false
set_option linter.unusedSimpArgs false
attribute [local go_sem, local simp] setDrewN allocDrewN

set_option maxHeartbeats 30000000 in
theorem read_bare (g off len cap p : Nat) (z : Nat → Int) (w : World) (hg : g < w.heap.size) (hp : p < len) (hl : (len : Int) ≤ 4611686018427387904) (hz : ∀ i, i < len → 0 ≤ z i ∧ z i < 256)
    (kv : ∀ i, i < len → w.cell? ⟨g, off + i, none⟩ = some (.int .u8 (z i))) (hs : z p ≤ 29) (hc : bearsN (z p) = 0) (hne : (z p == 1) = false) :
    Calls Tryd.prog 74 #[.slice (some ⟨g, off, none⟩) len cap, .int .i64 p] w fun e w' => e = .returned (opT p (p + 1) (z p) 0 0 0) ∧ Below w.heap.size w w' := by
  have HZ := Lib.hid hz
  have KV := Lib.hid kv
  clear hz kv
  have hp0 : ¬ (p : Int) < 0 := by omega
  have hp1 : ¬ (len : Int) ≤ p := by omega
  have hs1 : ¬ 29 < z p := by omega
  have HNB := Lib.hid hc
  clear hc
  go_enter Tryd.func74, Tryd.ntmps74
  go_wp2_with fail
  refine (byte_any (w.heap.size + 1) g off len cap p (z p) _ (by omega) (by omega) (by omega) hl (HZ.out p hp).1 (HZ.out p hp).2 ?_ ?_).mono ?_
  · constructor <;> go_simp
  · have := KV.out p hp
    go_simp
  rintro e u ⟨rfl, hs', ho⟩
  have F5 := Lib.hid (Five.only (b := w.heap.size) (a0 := 0) (a1 := 0) (a2 := 0) (a3 := 0) (a4 := 0) (by constructor <;> go_simp) ho (by omega))
  have hsz : u.heap.size = w.heap.size + 1 + 1 := by rw [ho.size]; simp
  have HB := Lib.hid (show Below w.heap.size w u by
    refine ho.below ?_ (by omega)
    repeat (first | (with_reducible exact Below.refl _ _) | (with_reducible refine below_drewN _ ?_) | (with_reducible refine Below.setCell ?_ (by first | omega | (simp; done) | (simp; omega)) _) | (with_reducible refine Below.alloc ?_ (by first | omega | (simp; done) | (simp; omega)) _)))
  have KU := Lib.hid (show ∀ i, i < len → u.cell? ⟨g, off + i, none⟩ = some (.int .u8 (z i)) by
    intro i hi
    rw [ho.cell (by show g ≠ _; omega)]
    have := KV.out i hi
    go_simp)
  obtain ⟨t0, t1, tf⟩ := hs'
  clear ho KV
  obtain ⟨c0, c1, c2, c3, c4, f0, f1, f2, f3, f4⟩ := F5.out
  clear F5
  go_wp2_with fail
  go_quiet ((go_at_call 91; refine Calls.quiet_of_same (bears_still HNB.out _)))
  go_wp2_with fail
  refine (bears_is HNB.out _).mono ?_
  rintro e u1 ⟨rfl, hW⟩
  have hg2 : g < u.heap.size := by omega
  have F5 : Five u1 w.heap.size 0 0 0 0 0 := by rw [← hW]; clear hW; constructor <;> go_simp
  have G5 : Five u1 (w.heap.size + 1 + 1) p 0 ((z p)) 0 0 := by rw [← hW]; clear hW; constructor <;> go_simp
  have S2 : Src (w.heap.size + 1) (.slice (some ⟨g, off, none⟩) len cap) (p + 1) u1 := by rw [← hW]; clear hW; constructor <;> go_simp
  have hsz1 : u1.heap.size = w.heap.size + 1 + 1 + 1 := by rw [← hW]; simp [hsz]
  have HB1 := Lib.hid (show Below w.heap.size w u1 by
    rw [← hW]
    repeat (first | (with_reducible exact HB.out) | (with_reducible refine below_drewN _ ?_) | (with_reducible refine Below.setCell ?_ (by first | omega | (simp; done) | (simp; omega)) _) | (with_reducible refine Below.alloc ?_ (by first | omega | (simp; done) | (simp; omega)) _)))
  have KU1 := Lib.hid (show ∀ i, i < len → u1.cell? ⟨g, off + i, none⟩ = some (.int .u8 (z i)) by
    intro i hi
    rw [← hW]
    exact (World.cell?_alloc_past _ _ _ hg2).trans (KU.out i hi))
  clear hW c0 c1 c2 c3 c4 f0 f1 f2 f3 f4 t0 t1 tf KU HB hg2 hsz
  obtain ⟨t0, t1, tf⟩ := S2
  obtain ⟨c0, c1, c2, c3, c4, f0, f1, f2, f3, f4⟩ := F5
  obtain ⟨s0, s1, s2, s3, s4, g0, g1, g2, g3, g4⟩ := G5
  go_wp2
  refine bodyPost_ret (v := opT p (p + 1) (z p) 0 0 0) ((fun (W : World) (h : Cells5 W w.heap.size p (p + 1) (z p) 0 0) => (by obtain ⟨c0, c1, c2, c3, c4⟩ := h; simp [results, Tryd.results74, go_sem, opT, c0, c1, c2, c3, c4] : (results _ _).run _ W = .ok _ W)) _ ?_) rfl ⟨rfl, ?_⟩
  · constructor <;> go_simp
  repeat (first | (with_reducible exact HB1.out) | (with_reducible refine below_drewN _ ?_) | (with_reducible refine Below.setCell ?_ (by first | omega | (simp; done) | (simp; omega)) _) | (with_reducible refine Below.alloc ?_ (by first | omega | (simp; done) | (simp; omega)) _))
end Go.Proofs.YtngobbbinacomaaDoor.c10
