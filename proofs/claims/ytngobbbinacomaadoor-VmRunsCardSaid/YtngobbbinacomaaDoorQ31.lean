/- Chapter 14: the chapter's example, walked; VmRows. -/
import Derived.Test.YtngobbbinacomaaDoorQ30
import Derived.WalkKit
import Derived.Laws.StructEq
import Derived.Laws.Tables
import Derived.Laws.Cover2
import Derived.KernelRfl
namespace Go.Proofs.YtngobbbinacomaaDoor
open Go.RowKit Go.Proofs.YtngobbbinacomaaDoor.c11 Go.Proofs.YtngobbbinacomaaDoor.c10
set_option linter.unusedVariables false
set_option linter.unusedSimpArgs false
attribute [local go_sem ↓] Go.wp_at_zero Go.wp_at_succ
theorem eq4 (a0 a1 a2 a3 b0 b1 b2 b3 : Int) (w : World) :
    (Op.equalIn 10000 23 (.agg #[.int .i64 a0, .int .i64 a1, .int .i64 a2, .int .i64 a3]) (.agg #[.int .i64 b0, .int .i64 b1, .int .i64 b2, .int .i64 b3])).run Tryd.prog w
      = .ok (decide (a0 = b0 ∧ a1 = b1 ∧ a2 = b2 ∧ a3 = b3)) w := by
  have iu := Tryd.underlying3
  have ia := Tryd.isAgg3
  have iz := Tryd.sizeOf3
  rw [show (10000 : Nat) = 9999 + 1 from rfl, Op.equalIn]
  simp only [Sem.run_bind, run_underlying Tryd.underlying23, Result.andThen_ok]
  simp only [Std.Legacy.Range.forIn_eq_forIn_range', Std.Legacy.Range.size, Nat.sub_zero, Nat.add_sub_cancel, Nat.div_one, List.range'_succ, List.range'_zero, List.forIn_cons, List.forIn_nil]
  go_simp
  by_cases h0 : a0 = b0
  · by_cases h1 : a1 = b1
    · by_cases h2 : a2 = b2
      · by_cases h3 : a3 = b3 <;> simp [h0, h1, h2, h3]
      · simp [h0, h1, h2]
    · simp [h0, h1]
  · simp [h0]
theorem eq4_same (a b c d : Int) (w : World) :
    (Op.equalIn 10000 23 (.agg #[.int .i64 a, .int .i64 b, .int .i64 c, .int .i64 d]) (.agg #[.int .i64 a, .int .i64 b, .int .i64 c, .int .i64 d])).run Tryd.prog w = .ok true w := by
  rw [eq4]; simp
theorem code_made (w : World) (b : List Int) (t1 t2 : TypeId) (o : Obj) : CodeIn (((w.alloc (.cells (b.map (Value.int .u8)).toArray t1)).alloc (.cells #[.slice (some ⟨w.heap.size, 0, none⟩) b.length b.length] t2)).alloc o) (w.heap.size + 2) (w.heap.size + 1) w.heap.size b := by
  refine ⟨?_, fun j u hu => ?_, by omega, by omega⟩
  · go_simp
  · have hb : Below (w.heap.size + 1) (w.alloc (.cells (b.map (Value.int .u8)).toArray t1)) (((w.alloc (.cells (b.map (Value.int .u8)).toArray t1)).alloc (.cells #[.slice (some ⟨w.heap.size, 0, none⟩) b.length b.length] t2)).alloc o) := ((Below.refl _ _).alloc (by simp) _).alloc (by simp) _
    rw [dcell hb (by omega), World.cell?_alloc_new]
    simpa using hu
set_option maxHeartbeats 4000000 in
set_option maxRecDepth 100000 in
theorem known14_any (w : World) : Calls Tryd.prog 17 #[] w fun e w' => e = .returned (.bool true) ∧ Below w.heap.size w w' := by
  go_enter Tryd.func17, Tryd.ntmps17
  go_upto_region 2 with fail
  obtain ⟨wb, hwb⟩ : ∃ x : World, x = (((w.alloc (.cells #[.int .u8 24, .int .u8 1, .int .u8 25, .int .u8 2, .int .u8 0] 5)).alloc (.cells #[.slice (some ⟨w.heap.size, 0, none⟩) 5 5] 44)).alloc (.cells #[.slice none 0 0, .slice none 0 0, .slice (some ⟨w.heap.size + 1, 0, none⟩) 1 1] 29)) := ⟨_, rfl⟩
  have hsz : wb.heap.size = w.heap.size + 3 := by rw [hwb]; simp
  have hb0 : Below w.heap.size w wb := by rw [hwb]; exact ((((Below.refl _ w).alloc (by simp) _).alloc (by simp) _).alloc (by simp; omega) _)
  have hc : CodeIn wb (w.heap.size + 2) (w.heap.size + 1) w.heap.size kb := by rw [hwb]; exact code_made w kb _ _ _
  have k0 : wb.cell? ⟨w.heap.size + 1 + 1, 0, none⟩ = some (.slice none 0 0) := by rw [hwb]; go_simp
  have k1 : wb.cell? ⟨w.heap.size + 1 + 1, 1, none⟩ = some (.slice none 0 0) := by rw [hwb]; go_simp
  have k2 : wb.cell? ⟨w.heap.size + 1 + 1, 2, none⟩ = some (.slice (some ⟨w.heap.size + 1, 0, none⟩) 1 1) := by rw [hwb]; go_simp
  rw [← hwb]
  clear hwb
  have HC := Lib.hid hc
  have HB0 := Lib.hid hb0
  clear hc hb0
  have RA := Lib.hid (runA (w := wb) (HC.out.more (by omega)))
  go_upto_region 3 with (go_at_call 22; refine (RA.out).mono ?_; rintro e w1 ⟨hb1, A1, c1, rfl⟩; have HB1 := Lib.hid hb1; clear hb1)
  have hz1 := HB1.out.size
  obtain ⟨wB, hwB⟩ : ∃ x : World, x = w1.alloc (.cells #[.int .i64 0, .int .i64 0, .int .i64 0, .int .i64 0] 23) := ⟨_, rfl⟩
  have HBA := Lib.hid (show Below wb.heap.size wb wB by rw [hwB]; exact HB1.out.alloc hz1 _)
  rw [← hwB]
  clear hwB
  have hzB := HBA.out.size
  have RB := Lib.hid (runB (w := wB) (f := w.heap.size + 1) (g := w.heap.size) (((HC.out.more (B' := wb.heap.size) (by omega)).below HBA.out).more hzB))
  have j0 := (dcell HBA.out (b := w.heap.size + 1 + 1) (by omega) 0).trans k0
  have j1 := (dcell HBA.out (b := w.heap.size + 1 + 1) (by omega) 1).trans k1
  have j2 := (dcell HBA.out (b := w.heap.size + 1 + 1) (by omega) 2).trans k2
  have E4 := eq4_same 1 0 9 0
  go_wp2_with (go_at_call 22; refine (RB.out).mono ?_; rintro e w2 ⟨hb2, A2, c2, rfl⟩; have HB2 := Lib.hid hb2; clear hb2)
  go_ret
  refine ⟨rfl, ?_⟩
  exact (below3 HB0.out (by omega) (below3 HBA.out hzB (HB2.out.alloc (HB2.out.size) _)))
end Go.Proofs.YtngobbbinacomaaDoor
