/- Chapter 14: VmTimes, walked. -/
import Derived.Test.YtngobbbinacomaaDoorSC14
import Derived.Test.YtngobbbinacomaaDoorSH14
namespace Go.Proofs.YtngobbbinacomaaDoor
open Go.RowKit Go.Proofs.YtngobbbinacomaaDoor.c11 Go.Proofs.YtngobbbinacomaaDoor.c10 Go.Proofs.YtngobbbinacomaaDoor.c13
set_option linter.unusedVariables false
set_option linter.unusedSimpArgs false
attribute [local go_sem ↓] Go.wp_at_zero Go.wp_at_succ

set_option maxHeartbeats 8000000 in
set_option maxRecDepth 100000 in
theorem vmTimes_of (a b now off lt : Int) (ha : a % 1099511627777 = now) (hb : b % 1073741824 = off) (hlt : (now < off ∧ lt = 1) ∨ (¬ now < off ∧ lt = 0)) (w : World) :
    Calls Tryd.prog 13 #[.int .i64 a, .int .i64 b] w fun e w' => e = .returned (.bool true) ∧ Below w.heap.size w w' := by
  have KN := Lib.hid (fun W => known14_any W)
  obtain ⟨i0, hi, hz0, hz1, hz2⟩ := info_parts byteInfo
  have t22 := byteRow
  have hoff : 0 ≤ off ∧ off < 1073741824 := by omega
  have WA := fun W => within14_any a 1099511627777 (by decide) (by decide) W
  have WB := fun W => within14_any b 1073741824 (by decide) (by decide) W
  rw [ha] at WA
  rw [hb] at WB
  have HWA := Lib.hid WA
  have HWB := Lib.hid WB
  have hI : I64 off := ⟨by omega, by omega⟩
  have hll : (if now < off then (1 : Int) else 0) = lt := by rcases hlt with ⟨h, rfl⟩ | ⟨h, rfl⟩ <;> simp [h]
  have hn : wrapK 5 now = wrap32 now := by simp [wrapK]
  have e32 : IntKind.i64.wrap (wrap32 now) = wrap32 now := IntWalk.i64_in _ (by unfold wrap32; omega)
  have e33 : wrap64 (wrap32 now) = wrap32 now := IntWalk.wrap64_in _ (by unfold wrap32; omega)
  have RN := Lib.hid (fun (u : World) (g cc : Nat) (h : CodeLies u g (tbC off) cc) => show Calls Tryd.prog 29 #[.slice (some ⟨g, 0, none⟩) 22 cc, .agg #[.int .i64 0, .int .i64 0, .int .i64 0, .int .i64 0], .int .i64 now] u fun e w' => Below u.heap.size u w' ∧ ∃ (v : Value) (n : Nat), e = .returned (.tuple #[v, .agg #[.int .i64 (wrap32 now), .int .i64 lt, .int .i64 7, .int .i64 8], .int .i64 n, .int .i64 0, .bool true]) from by
    have h := run14_any g (tbC off) cc 0 0 0 0 now u h (tb_fine off hI) (fun SA SC Ca Cc f La Lc => tb_run SA Ca La SC Cc cc f g Lc off now hI)
    rw [tbC_len] at h
    simp only [hn, hll] at h
    exact h.mono fun e w' ⟨h1, v, h2, _⟩ => ⟨h1, v, _, h2⟩)
  have BY := Lib.hid (fun (base : Nat) (v : Value) (u : World) (ho : u.ownsRow base 5 1 v 1 (u8s [26])) (hb : base ≤ u.heap.size) => rbytes_any v 1 base [26] 0 0 1 6 off u (by decide) ho hb)
  have E4 := eq4_same (wrap32 now) lt 7 8
  clear WA WB ha hb hll hn
  rcases hlt with ⟨hlt, rfl⟩ | ⟨hlt, rfl⟩
  all_goals go_enter Tryd.func13, Tryd.ntmps13
  all_goals go_wp2_with (first | (go_at_call 17; refine (KN.out _).mono ?_; rintro e w1 ⟨rfl, hb1⟩; have HB1 := Lib.hid hb1; clear hb1) | (go_at_call 21; first | (with_reducible refine (HWA.out _).mono ?_; rintro e wx ⟨rfl, rfl⟩) | (with_reducible refine (HWB.out _).mono ?_; rintro e wx ⟨rfl, rfl⟩)))
  all_goals
    refine (BY.out w1.heap.size _ _ (lit_own w1 [26] w1.heap.size (Nat.le_refl _) (by decide)) (by simp)).mono ?_
    rintro e u1 ⟨⟨v1, rfl, ho1⟩, hb1⟩
    rw [show (encB 1 6 off).length = 10 by simp [encB_push, nb8_length]] at ho1
    have HO1 := Lib.hid (show u1.ownsRow w1.heap.size 5 1 v1 11 (u8s ([26] ++ encB 1 6 off)) from ho1)
    have HBA := Lib.hid (show Below w1.heap.size w1 u1 from ((Below.refl _ w1).alloc (Nat.le_refl _) _).trans hb1)
    clear ho1 hb1
    go_wp2_with (at_builtin; refine wpList_append_own _ rfl _ _ 44 rfl w1.heap.size 5 i0 _ 1 1 t22 hi hz0 hz1 hz2 rfl (by decide) _ 11 (u8s ([26] ++ encB 1 6 off)) rfl (HO1.out.alloc _) ⟨_, 0, none⟩ 11 11 (u8s [17, 23, 5, 25, 1, 26, 23, 5, 25, 0, 0]) rfl rfl (lit_cells _ [17, 23, 5, 25, 1, 26, 23, 5, 25, 0, 0] _) (u8s_one _) (by unfold maxLen; omega) (by omega) (by have hq := HBA.out.size; simp; omega) ?_; intro v2 u2 hown hgrow hnil; have HO2 := Lib.hid (show u2.ownsRow w1.heap.size 5 1 v2 22 (u8s (tbC off)) from by rw [tbC, ← List.append_assoc, u8s_app]; exact hown); have HB2 := Lib.hid (grown_below (B := w1.heap.size) (HBA.out.alloc (by have hq := HBA.out.size; omega) _) (HO1.out.alloc _) hgrow (Nat.le_refl _) (by have hq := HBA.out.size; simp; omega)); clear hown hgrow hnil)
    obtain ⟨g2, c2, rfl, hcl⟩ := CodeLies.of_own (b := tbC off) HO2.out (by decide)
    refine (RN.out _ _ _ hcl).mono ?_
    rintro e w3 ⟨hb3, v3, n3, rfl⟩
    have HB3 := Lib.hid (below3 HB1.out HB1.out.size (below3 HB2.out HB2.out.size hb3))
    clear hb3 hcl
  all_goals go_wp2
  all_goals (go_ret; exact ⟨rfl, HB3.out.alloc HB3.out.size _⟩)

theorem vmTimes_walk (a0 a1 : Int) (w : World) (w0 : I64 a0) (w1 : I64 a1) :
    Calls Tryd.prog 13 #[.int .i64 a0, .int .i64 a1] w fun e w' => e = .returned (.bool true) ∧ Below w.heap.size w w' := by
  by_cases h : a0 % 1099511627777 < a1 % 1073741824
  · exact vmTimes_of a0 a1 _ _ 1 rfl rfl (.inl ⟨h, rfl⟩) w
  · exact vmTimes_of a0 a1 _ _ 0 rfl rfl (.inr ⟨h, rfl⟩) w
end Go.Proofs.YtngobbbinacomaaDoor
