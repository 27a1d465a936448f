/- Chapter 14: VmPorts, walked. -/
import Derived.Test.YtngobbbinacomaaDoorRP14
import Derived.Deep.DeepCutAuto
import Derived.Deep.QuietTactic
import Derived.BigQuiet
namespace Go.Proofs.YtngobbbinacomaaDoor
open Go.RowKit Go.Proofs.YtngobbbinacomaaDoor.c11 Go.Proofs.YtngobbbinacomaaDoor.c10 Go.Proofs.YtngobbbinacomaaDoor.c13
set_option linter.unusedVariables false
set_option linter.unusedSimpArgs false
attribute [local go_sem ↓] Go.wp_at_zero Go.wp_at_succ

theorem i32_is (n : Int) : IntKind.i32.wrap n = wrapK 5 n := by
  simp [IntKind.wrap, IntKind.bits, IntKind.signed, wrapK, wrap32]
  omega
theorem i32_is64 (n : Int) : IntKind.i64.wrap (IntKind.i32.wrap n) = wrapK 5 n := by
  rw [i32_is]
  exact IntWalk.i64_in _ (by simp only [wrapK]; simp; unfold wrap32; omega)
theorem i32_is64' (n : Int) : wrap64 (IntKind.i32.wrap n) = wrapK 5 n := by
  rw [i32_is]
  exact IntWalk.wrap64_in _ (by simp only [wrapK]; simp; unfold wrap32; omega)
theorem below_drewN {B : Nat} {a w : World} (h : Below B a w) (n : Nat) : Below B a (w.drewN n) := h.trans ⟨rfl, rfl, rfl, Nat.le_refl _, fun _ _ => rfl⟩
/-- Behind the run: the outputs' box, the inputs, the first cell. -/
theorem ports_after {w2 : World} {m g : Nat} {a b c d i0 i1 i2 i3 v : Value} {t : TypeId} (hm : m < w2.heap.size) (hg : g < w2.heap.size) (h0 : w2.cell? ⟨m, 0, none⟩ = some i0) (h1 : w2.cell? ⟨m, 1, none⟩ = some i1) (h2 : w2.cell? ⟨m, 2, none⟩ = some i2) (h3 : w2.cell? ⟨m, 3, none⟩ = some i3) (hv : w2.cell? ⟨g, 0, none⟩ = some v) :
    let W := w2.alloc (.cells #[a, b, c, d] t)
    (W.cell? ⟨w2.heap.size, 0, none⟩ = some a ∧ W.cell? ⟨w2.heap.size, 1, none⟩ = some b ∧ W.cell? ⟨w2.heap.size, 2, none⟩ = some c ∧ W.cell? ⟨w2.heap.size, 3, none⟩ = some d) ∧
    (W.cell? ⟨m, 0, none⟩ = some i0 ∧ W.cell? ⟨m, 1, none⟩ = some i1 ∧ W.cell? ⟨m, 2, none⟩ = some i2 ∧ W.cell? ⟨m, 3, none⟩ = some i3) ∧ W.cell? ⟨g, 0, none⟩ = some v := by
  have hb : Below w2.heap.size w2 (w2.alloc (.cells #[a, b, c, d] t)) := (Below.refl _ _).alloc (Nat.le_refl _) _
  exact ⟨⟨by go_simp, by go_simp, by go_simp, by go_simp⟩, ⟨(dcell hb hm 0).trans h0, (dcell hb hm 1).trans h1, (dcell hb hm 2).trans h2, (dcell hb hm 3).trans h3⟩, (dcell hb hg 0).trans hv⟩

set_option maxHeartbeats 8000000 in
set_option maxRecDepth 100000 in
theorem vmPorts_of (i0 i1 i2 i3 a k : Int) (hk : a % 4 = k) (h : k = 0 ∨ k = 1 ∨ k = 2 ∨ k = 3) (w : World) :
    Calls Tryd.prog 15 #[.agg #[.int .i64 i0, .int .i64 i1, .int .i64 i2, .int .i64 i3], .int .i64 a] w fun e w' => e = .returned (.bool true) ∧ Below w.heap.size w w' := by
  have KN := Lib.hid (fun W => known14_any W)
  have WI := fun W => within14_any a 4 (by decide) (by decide) W
  rw [hk] at WI
  have HWI := Lib.hid WI
  obtain ⟨v, hv⟩ : ∃ v, wrapK 5 (if k = 0 then i0 else if k = 1 then i1 else if k = 2 then i2 else i3) = v := ⟨_, rfl⟩
  have RN := Lib.hid (fun (u : World) => run14_any u.heap.size (pbC k) 8 i0 i1 i2 i3 0 (u.alloc (.cells ((pbC k).map (Value.int .u8)).toArray 5)) (CodeLies.lit u (pbC k) _ (by simp [pbC])) (pbC_fine k h) (fun SA SC Ca Cc f La Lc => pbC_run SA Ca La SC Cc 8 f u.heap.size Lc k i0 i1 i2 i3 0 v h hv))
  have e32 := i32_is64 (if k = 0 then i0 else if k = 1 then i1 else if k = 2 then i2 else i3)
  have e33 := i32_is64' (if k = 0 then i0 else if k = 1 then i1 else if k = 2 then i2 else i3)
  rw [hv] at e32 e33
  clear WI hk hv
  rcases h with rfl | rfl | rfl | rfl
  all_goals simp at e32 e33
  all_goals go_enter Tryd.func15, Tryd.ntmps15
  all_goals go_wp2_with (first | (go_at_call 17; refine (KN.out _).mono ?_; rintro e w1 ⟨rfl, hb1⟩; have HB1 := Lib.hid hb1; obtain ⟨o0, o1, o2, o3, -, -, -, -⟩ := box_new4 hb1; have hl1 : w.heap.size < w1.heap.size := (by have := hb1.size; simp at this; omega); have hn1 : ¬ w.heap.size = w1.heap.size := (by omega); clear hb1) | (go_at_call 21; refine (HWI.out _).mono ?_; rintro e w2 ⟨rfl, rfl⟩))
  all_goals
    refine (RN.out w1).mono ?_
    rintro e w2 ⟨hb2, v2, rfl, ho⟩
    have hs1 := HB1.out.size
    simp at hs1
    have hs2 := hb2.size
    simp at hs2
    have HB2 := Lib.hid (show Below w.heap.size w w2 from ((Below.refl _ w).alloc (Nat.le_refl _) _).trans ((HB1.out.mono (by simp)).trans (Below.trans ((Below.refl _ w1).alloc (by omega) _) (hb2.mono (by simp; omega)))))
    have hc : ∀ j, w2.cell? ⟨w.heap.size, j, none⟩ = w1.cell? ⟨w.heap.size, j, none⟩ := fun j => (dcell hb2 (by simp; omega) j).trans (dcell ((Below.refl _ w1).alloc (Nat.le_refl _) _) (by omega) j)
    replace o0 := (hc 0).trans o0
    replace o1 := (hc 1).trans o1
    replace o2 := (hc 2).trans o2
    replace o3 := (hc 3).trans o3
    replace ho : w2.ownsRow _ 3 1 v2 21 ((v :: begL.tail).map (Value.int .i64)) := ho
    obtain ⟨A2, c2, rfl, hc1, hc2⟩ := own_slice ho
    have hci : (21 : Int) ≤ c2 := by omega
    unfold maxLen at hc2
    obtain ⟨gv, cv, hgv, _⟩ := ho.form (by simp)
    injection hgv with hA _ _
    subst hA
    have c0 := own_at ho 0 v rfl
    have hl2 : w.heap.size < w2.heap.size := by omega
    have hg2 : gv < w2.heap.size := (ho.lt gv rfl).2
    clear hc hb2 ho
  all_goals go_wp2_with fail
  all_goals
    have PA := fun (a b c d : Value) (t : TypeId) => ports_after (a := a) (b := b) (c := c) (d := d) (t := t) hl2 hg2 o0 o1 o2 o3 c0
    clear o0 o1 o2 o3 c0
    generalize hw3 : w2.alloc _ = w3
    obtain ⟨⟨q0, q1, q2, q3⟩, ⟨o0, o1, o2, o3⟩, c0⟩ := hw3 ▸ PA _ _ _ _ _
    have HB3 := Lib.hid (show Below w.heap.size w w3 from hw3 ▸ HB2.out.alloc HB2.out.size _)
    have hz3 : w2.heap.size < w3.heap.size := by rw [← hw3]; simp
    clear hw3 PA
    go_quiet (fail)
  all_goals go_wp2
  all_goals go_ret
  all_goals exact ⟨rfl, by repeat (first | (with_reducible exact HB3.out) | (with_reducible refine below_drewN ?_ _) | (with_reducible refine Below.drew ?_))⟩

theorem vmPorts_walk (a00 a01 a02 a03 a1 : Int) (w : World) (w00 : I64 a00) (w01 : I64 a01) (w02 : I64 a02) (w03 : I64 a03) (w1 : I64 a1) :
    Calls Tryd.prog 15 #[.agg #[.int .i64 a00, .int .i64 a01, .int .i64 a02, .int .i64 a03], .int .i64 a1] w fun e w' => e = .returned (.bool true) ∧ Below w.heap.size w w' :=
  vmPorts_of a00 a01 a02 a03 a1 _ rfl (by omega) w
end Go.Proofs.YtngobbbinacomaaDoor
