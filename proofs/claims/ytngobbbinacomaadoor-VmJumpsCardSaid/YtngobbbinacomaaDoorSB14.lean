/- Chapter 14: VmJumps, walked. -/
import Derived.Test.YtngobbbinacomaaDoorRP14
import Derived.Deep.DeepCutAuto
namespace Go.Proofs.YtngobbbinacomaaDoor
open Go.RowKit Go.Proofs.YtngobbbinacomaaDoor.c11 Go.Proofs.YtngobbbinacomaaDoor.c10 Go.Proofs.YtngobbbinacomaaDoor.c13
set_option linter.unusedVariables false
set_option linter.unusedSimpArgs false
attribute [local go_sem ↓] Go.wp_at_zero Go.wp_at_succ

set_option maxHeartbeats 8000000 in
set_option maxRecDepth 100000 in
theorem vmJumps_of (a b x y z : Int) (hx : wrapK 5 a = x) (hy : wrapK 5 b = y) (hz : (x < y ∧ z = 7) ∨ (¬ x < y ∧ z = -1)) (w : World) :
    Calls Tryd.prog 12 #[.int .i64 a, .int .i64 b] w fun e w' => e = .returned (.bool true) ∧ Below w.heap.size w w' := by
  have KN := Lib.hid (known14_any w)
  have hxx : wrapK 5 x = x := by rw [← hx]; exact wrapK5 a
  have hyy : wrapK 5 y = y := by rw [← hy]; exact wrapK5 b
  have WX := fun W => rwrap_any 5 a W
  have WY := fun W => rwrap_any 5 b W
  rw [hx] at WX
  rw [hy] at WY
  have HWX := Lib.hid WX
  have HWY := Lib.hid WY
  have hzz : (if x < y then (7 : Int) else -1) = z := by rcases hz with ⟨h, rfl⟩ | ⟨h, rfl⟩ <;> simp [h]
  have RN := Lib.hid (fun (u : World) => run14_any u.heap.size jbC 17 x y 0 0 0 (u.alloc (.cells (jbC.map (Value.int .u8)).toArray 5)) (CodeLies.lit u jbC _ (by decide)) jbC_fine (R := ⟨begL, z, 6, 7, 8, 93, 7, []⟩) (fun SA SC Ca Cc f La Lc => by rw [← hzz]; exact jbC_run SA Ca La SC Cc 17 f u.heap.size Lc x y 0 hxx hyy))
  clear WX WY hx hy hxx hyy hzz
  rcases hz with ⟨hlt, rfl⟩ | ⟨hlt, rfl⟩
  all_goals go_enter Tryd.func12, Tryd.ntmps12
  all_goals go_wp2_with (first | (go_at_call 17; refine (KN.out).mono ?_; rintro e w1 ⟨rfl, hb1⟩; have HB1 := Lib.hid hb1; clear hb1) | (go_at_call 26; first | (with_reducible refine (HWX.out _).mono ?_; rintro e w2 ⟨rfl, rfl⟩) | (with_reducible refine (HWY.out _).mono ?_; rintro e w2 ⟨rfl, rfl⟩)))
  all_goals
    refine (RN.out w1).mono ?_
    rintro e w2 ⟨hb2, v, rfl, ho⟩
    have HB2 := Lib.hid (below3 HB1.out HB1.out.size (Below.trans ((Below.refl _ w1).alloc (Nat.le_refl _) _) (hb2.mono (by simp))))
    clear ho hb2
  all_goals go_wp2_with fail
  all_goals (go_ret; exact ⟨rfl, HB2.out.alloc HB2.out.size _⟩)

theorem vmJumps_walk (a0 a1 : Int) (w : World) (w0 : I64 a0) (w1 : I64 a1) :
    Calls Tryd.prog 12 #[.int .i64 a0, .int .i64 a1] w fun e w' => e = .returned (.bool true) ∧ Below w.heap.size w w' := by
  by_cases h : wrapK 5 a0 < wrapK 5 a1
  · exact vmJumps_of a0 a1 _ _ 7 rfl rfl (.inl ⟨h, rfl⟩) w
  · exact vmJumps_of a0 a1 _ _ (-1) rfl rfl (.inr ⟨h, rfl⟩) w
end Go.Proofs.YtngobbbinacomaaDoor
