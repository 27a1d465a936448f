/- Chapter 14: VmBlocks, walked. -/
import Derived.Test.YtngobbbinacomaaDoorBB14
import Derived.Deep.DeepCutAuto
namespace Go.Proofs.YtngobbbinacomaaDoor
open Go.RowKit Go.Proofs.YtngobbbinacomaaDoor.c11 Go.Proofs.YtngobbbinacomaaDoor.c10 Go.Proofs.YtngobbbinacomaaDoor.c13
set_option linter.unusedVariables false
set_option linter.unusedSimpArgs false
attribute [local go_sem ↓] Go.wp_at_zero Go.wp_at_succ

theorem syms_len (b : Bool) : (symsP b).length = 7 := rfl
theorem own_cell {w : World} {base : Nat} {e : TypeId} {g n cap : Nat} {l : List Int} (h : w.ownsRow base e 1 (.slice (some ⟨g, 0, none⟩) n cap) n (l.map (Value.int .i64))) (j : Nat) (x : Int) (hx : l[j]? = some x) : w.cell? ⟨g, j, none⟩ = some (.int .i64 x) := by
  have hj : j < n * 1 := by have h1 := (List.getElem?_eq_some_iff.1 hx).1; have h2 := h.1; simp at h2; omega
  rw [h.cellAt j hj, List.getElem?_map, hx]
  rfl
theorem below_sets {B g : Nat} {a : World} : ∀ (vs : List Int) (k : Nat) (w : World), Below B a w → B ≤ g → Below B a (setCells w g k vs) := by
  intro vs
  induction vs with
  | nil => intro k w h hg; exact h
  | cons v vs ih => intro k w h hg; exact ih (k + 1) _ (h.setCell (p := ⟨g, k, none⟩) hg _) hg
theorem size_sets (g : Nat) : ∀ (vs : List Int) (k : Nat) (w : World), (setCells w g k vs).heap.size = w.heap.size := by
  intro vs
  induction vs with
  | nil => intro k w; rfl
  | cons v vs ih => intro k w; rw [setCells, ih]; simp
theorem six_sets {w : World} {g : Nat} {cur : Array Value} {t : TypeId} (hg : w.heap[g]? = some (.cells cur t (0, 0))) (hs : cur.size = 6) (a b c d e f : Int) : Six (setCells w g 0 [a, b, c, d, e, f]) g a b c d e f := by
  have hb : (setCells w g 0 [a, b, c, d, e, f]).heap[g]? = some (.cells #[.int .i64 a, .int .i64 b, .int .i64 c, .int .i64 d, .int .i64 e, .int .i64 f] t (0, 0)) := by
    rw [setCells_row g t _ 0 w cur hg (by simp [hs])]
    have h := setRow_heap w g cur ((cur.toList.take 0 ++ [a, b, c, d, e, f].map (Value.int .i64) ++ cur.toList.drop (0 + [a, b, c, d, e, f].length)).toArray) t (0, 0) hg
    have ee : (cur.toList.take 0 ++ [a, b, c, d, e, f].map (Value.int .i64) ++ cur.toList.drop (0 + [a, b, c, d, e, f].length)).toArray = #[.int .i64 a, .int .i64 b, .int .i64 c, .int .i64 d, .int .i64 e, .int .i64 f] := by
      rw [List.drop_eq_nil_of_le (by simp [hs])]
      simp
    rw [ee] at h ⊢
    exact h
  have hc := fun j => cell_of_row _ g j _ _ (0, 0) hb
  have hf := fun j => frozen_of_row _ g j _ _ hb
  exact ⟨hc 0, hc 1, hc 2, hc 3, hc 4, hc 5, hf 0, hf 1, hf 2, hf 3, hf 4, hf 5⟩
def BlkRel (w : World) (k : Value) (wr : World) : Prop := ∃ j : Nat, k = .int .i64 j ∧ j ≤ 21 ∧ wr = w

set_option maxHeartbeats 8000000 in
set_option maxRecDepth 100000 in
theorem vmBlocks_9 (now : Int) (hnow : 0 ≤ now ∧ now ≤ 1099511627776) (a b : Int) (ha : a % 2 = 0) (hb : b % 1099511627777 = now) (w : World) :
    Calls Tryd.prog 10 #[.int .i64 a, .int .i64 b] w fun e w' => e = .returned (.bool true) ∧ Below w.heap.size w w' := by
  have KN := Lib.hid (known14_any w)
  have WN := fun W => within14_any b 1099511627777 (by decide) (by decide) W
  have WM := fun W => within14_any a 2 (by decide) (by decide) W
  rw [hb] at WN
  rw [ha] at WM
  have HWN := Lib.hid WN
  have HWM := Lib.hid WM
  clear WN WM ha hb
  go_enter Tryd.func10, Tryd.ntmps10
  go_upto_region 6 with (first | (go_at_call 17; refine (KN.out).mono ?_; rintro e w1 ⟨rfl, hb1⟩; have HB1 := Lib.hid hb1; clear hb1) | (go_at_call 21; first | (with_reducible refine (HWN.out _).mono ?_; rintro e wx ⟨rfl, rfl⟩) | (with_reducible refine (HWM.out _).mono ?_; rintro e wx ⟨rfl, rfl⟩)) | (go_at_call 30; refine (syms_any true _).mono ?_; rintro e w2 ⟨sb, rfl, hs2, hb2⟩; have HB2 := Lib.hid hb2; have HS2 := Lib.hid hs2; clear hb2 hs2))
  obtain ⟨vb, hvb⟩ : ∃ x : World, x = (((w2.alloc (.cells #[.int .u8 27, .int .u8 9, .int .u8 0] 5)).alloc (.cells #[.slice (some ⟨w2.heap.size, 0, none⟩) 3 3] 44)).alloc (.cells #[.slice (some ⟨sb, 0, none⟩) 7 7, .slice none 0 0, .slice (some ⟨w2.heap.size + 1, 0, none⟩) 1 1] 29)) := ⟨_, rfl⟩
  have hc : CodeIn vb (w2.heap.size + 2) (w2.heap.size + 1) w2.heap.size (blkB 9) := by rw [hvb]; exact code_made w2 (blkB 9) _ _ _
  have hsz : vb.heap.size = w2.heap.size + 3 := by rw [hvb]; simp
  have hb0 : Below w2.heap.size w2 vb := by rw [hvb]; exact ((((Below.refl _ w2).alloc (by simp) _).alloc (by simp) _).alloc (by simp; omega) _)
  have k0 : vb.cell? ⟨w2.heap.size + 1 + 1, 0, none⟩ = some (.slice (some ⟨sb, 0, none⟩) 7 7) := by rw [hvb]; go_simp
  have k1 : vb.cell? ⟨w2.heap.size + 1 + 1, 1, none⟩ = some (.slice none 0 0) := by rw [hvb]; go_simp
  have k2 : vb.cell? ⟨w2.heap.size + 1 + 1, 2, none⟩ = some (.slice (some ⟨w2.heap.size + 1, 0, none⟩) 1 1) := by rw [hvb]; go_simp
  rw [← hvb]
  clear hvb
  have hz1 := HB1.out.size
  have hzq := HB2.out.size
  have hm : w2.heap.size + 1 + 1 < vb.heap.size := by omega
  have HB0 := Lib.hid (show Below w.heap.size w vb from below3 HB1.out hz1 (below3 ((Below.refl _ w1).alloc (Nat.le_refl _) _) (by simp) (below3 HB2.out hzq hb0)))
  have HSV := Lib.hid (show Syms vb vb.heap.size (some ⟨sb, 0, none⟩) 7 (symsP true) from (HS2.out.below hb0).moreS (by omega))
  have HCV := Lib.hid (hc.more (B' := vb.heap.size) (by omega))
  have LC := Lib.hid (lcells_any (some ⟨sb, 0, none⟩) 7 7 (symsP true) none (some ⟨w2.heap.size + 1, 0, none⟩) 0 0 1 1 vb HSV.out (by decide) (by decide) (by decide) (symsP_size true))
  clear hc hb0 hsz hzq
  go_upto_region 7 with (go_at_call 20; refine (LC.out).mono ?_; rintro e w3 ⟨v3, rfl, ho3, hb3⟩; have HB3 := Lib.hid hb3; have HO3 := Lib.hid ho3; clear hb3 ho3)
  have hz3 := HB3.out.size
  obtain ⟨ww, wc, hv3⟩ : ∃ g c, v3 = .slice (some ⟨g, 0, none⟩) 21 c := by
    obtain ⟨g, cap, hv, _, _⟩ := HO3.out.form (by decide)
    exact ⟨g, cap, hv⟩
  subst hv3
  have ho3 : w3.ownsRow vb.heap.size 3 1 (.slice (some ⟨ww, 0, none⟩) 21 wc) 21 (([0, 1, 5, -3, 0, 0, 0, 0, 0, 0, 50, 0, 0, 0, 0, 0, 0, 3, 0, 0, 0] : List Int).map (Value.int .i64)) := by
    have h := HO3.out
    rw [begin_true] at h
    exact h
  have hlt3 := ho3.lt ww rfl
  obtain ⟨_, wc', hwc0, hwc1, hwc2⟩ := own_slice ho3
  obtain rfl : wc = wc' := by injection hwc0
  unfold maxLen at hwc2
  have c9 := own_cell ho3 9 0 rfl
  have c15 := own_cell ho3 15 0 rfl
  have f9 := ho3.frozenAt 9
  have f15 := ho3.frozenAt 15
  have hst := (ho3.stored 9 (.int .i64 1)).1
  have hst2 := (hst.stored 15 (.int .i64 1)).1
  have HWAS := Lib.hid (show ((w3.setCell ⟨ww, 9, none⟩ (.int .i64 1)).setCell ⟨ww, 15, none⟩ (.int .i64 1)).ownsRow vb.heap.size 3 1 (.slice (some ⟨ww, 0, none⟩) 21 wc) 21 (wasL.map (Value.int .i64)) from hst2)
  have HB4 := Lib.hid (show Below vb.heap.size vb ((w3.setCell ⟨ww, 9, none⟩ (.int .i64 1)).setCell ⟨ww, 15, none⟩ (.int .i64 1)) from (HB3.out.setCell hlt3.1 _).setCell hlt3.1 _)
  have hz4 : ((w3.setCell ⟨ww, 9, none⟩ (.int .i64 1)).setCell ⟨ww, 15, none⟩ (.int .i64 1)).heap.size = w3.heap.size := by simp
  clear ho3 hst hst2 HO3 hwc0
  go_upto_region 8 with fail
  obtain ⟨w4, hw4⟩ : ∃ x : World, x = ((w3.setCell ⟨ww, 9, none⟩ (.int .i64 1)).setCell ⟨ww, 15, none⟩ (.int .i64 1)) := ⟨_, rfl⟩
  rw [← hw4] at HWAS HB4 hz4
  rw [← hw4]
  clear hw4 c9 c15 f9 f15
  have m0 := (dcell HB4.out hm 0).trans k0
  have m1 := (dcell HB4.out hm 1).trans k1
  have m2 := (dcell HB4.out hm 2).trans k2
  have hle4 : vb.heap.size ≤ w4.heap.size := by omega
  have RN := Lib.hid (runS (w := w4) (SA := some ⟨sb, 0, none⟩) (SC := 7) (l := symsP true) (consts := []) (Ca := none) (Cc := 0) (b := blkB 9) ((HSV.out.below HB4.out).moreS hle4) (by decide) (by decide) Row.nil (by decide) ((HCV.out.below HB4.out).more hle4) (by decide) (by decide) (symsP_len true) (some ⟨ww, 0, none⟩) 21 wc wasL (Row.of_own HWAS.out) (by decide) hwc1 0 0 0 0 0 0 0 0 now 9 (by decide) (fun La Lc => blk_run _ none La 7 0 Lc _ _ 9 (by decide) now))
  clear k0 k1 k2 hlt3
  have hwcI : (21 : Int) ≤ wc := by omega
  go_upto_region 11 with (go_at_call 22; refine (RN.out).mono ?_; rintro e w5 ⟨hb5, hr, _⟩; obtain ⟨v5, rfl, ho5⟩ := hr rfl; have ho5 : w5.ownsRow w4.heap.size 3 1 v5 21 ((beL 9 now).map (Value.int .i64)) := ho5; obtain ⟨A5, c5, rfl, hc51, hc52⟩ := own_slice ho5; have HB5 := Lib.hid hb5; have HO5 := Lib.hid ho5; clear hb5 ho5)
  unfold maxLen at hc52
  have hz5 := HB5.out.size
  obtain ⟨cg, hA5⟩ : ∃ g, A5 = some ⟨g, 0, none⟩ := by
    obtain ⟨g, cap, hv, _, _⟩ := HO5.out.form (by decide)
    exact ⟨g, by injection hv⟩
  subst hA5
  have hcg := HO5.out.lt cg rfl
  have hww := HWAS.out.lt ww rfl
  go_upto_region 12 with fail
  obtain ⟨w6, hw6⟩ : ∃ x : World, x = ((w5.alloc (.cells #[.int .i64 0, .int .i64 0, .int .i64 0, .int .i64 0] 23)).alloc (.cells #[.int .i64 0, .int .i64 0, .int .i64 0, .int .i64 0, .int .i64 0, .int .i64 0] 60)) := ⟨_, rfl⟩
  have hz6 : w6.heap.size = w5.heap.size + 2 := by rw [hw6]; simp
  have hbox : w6.heap[w5.heap.size + 1]? = some (.cells #[.int .i64 0, .int .i64 0, .int .i64 0, .int .i64 0, .int .i64 0, .int .i64 0] 60 (0, 0)) := by rw [hw6]; exact heap_topE _ _ _ (by simp)
  have hb6 : Below w5.heap.size w5 w6 := by rw [hw6]; exact (((Below.refl _ _).alloc (Nat.le_refl _) _).alloc (by simp) _)
  rw [← hw6]
  clear hw6
  have hwx : ww < w6.heap.size := by omega
  have HW6 := Lib.hid (fun j x (hx : wasL[j]? = some x) => (dcell hb6 (show ww < w5.heap.size by omega) j).trans ((dcell HB5.out hww.2 j).trans (own_cell HWAS.out j x hx)))
  have HC6 := Lib.hid (fun j x (hx : (beL 9 now)[j]? = some x) => (dcell hb6 hcg.2 j).trans (own_cell HO5.out j x hx))
  have HB6 := Lib.hid (show Below w.heap.size w w6 from below3 HB0.out HB0.out.size (below3 HB4.out HB4.out.size (below3 HB5.out HB5.out.size hb6)))
  have cp := run_copy6 w6.drew 3 (w5.heap.size + 1) 0 6 6 ⟨ww, 9, none⟩ (wc - 9) 60 _ hbox 1 50 0 0 0 0 (by decide) (by decide) (fun j v hv => by
    rw [Addr.add_lit]
    have hj : j < 6 := by have := (List.getElem?_eq_some_iff.1 hv).1; simpa using this
    rcases (show j = 0 ∨ j = 1 ∨ j = 2 ∨ j = 3 ∨ j = 4 ∨ j = 5 by omega) with rfl | rfl | rfl | rfl | rfl | rfl <;> (simp at hv; subst hv; exact HW6.out _ _ rfl))
  have HBOX := Lib.hid hbox
  have hwcx : ((9 : Nat) : Int) + 6 ≤ wc := by omega
  have hwn : ¬ ww = w5.heap.size + 1 := by omega
  clear hbox
  go_region
  obtain ⟨w7, hw7⟩ : ∃ x : World, x = setCells w6.drew (w5.heap.size + 1) 0 [1, 50, 0, 0, 0, 0] := ⟨_, rfl⟩
  have HS7 := Lib.hid (show Six w7 (w5.heap.size + 1) 1 50 0 0 0 0 by rw [hw7]; exact six_sets (w := w6.drew) HBOX.out (by decide) 1 50 0 0 0 0)
  have hb7 : Below w5.heap.size w6 w7 := by rw [hw7]; exact below_sets _ _ _ (Below.refl _ _).drew (by omega)
  have hz7 : w7.heap.size = w5.heap.size + 2 := by rw [hw7, size_sets]; exact hz6
  rw [← hw7]
  clear hw7 cp
  have HW7 := Lib.hid (fun j x (hx : wasL[j]? = some x) => (dcell hb7 (show ww < w5.heap.size by omega) j).trans (HW6.out j x hx))
  have HC7 := Lib.hid (fun j x (hx : (beL 9 now)[j]? = some x) => (dcell hb7 hcg.2 j).trans (HC6.out j x hx))
  have HB7 := Lib.hid (show Below w.heap.size w w7 from HB6.out.trans (hb7.mono (by have := HB0.out.size; have := HB4.out.size; omega)))
  clear hb7
  obtain ⟨k0, k1, k2, k3, k4, k5, f0, f1, f2, f3, f4, f5⟩ := HS7.out
  have hzw : w5.heap.size + 1 < w7.heap.size := by omega
  have TN := Lib.hid (show ∀ u, Calls Tryd.prog 31 #[.agg #[.int .i64 1, .int .i64 50, .int .i64 0, .int .i64 0, .int .i64 0, .int .i64 0], .int .i64 now] u fun e w' => e = .returned (.agg #[.int .i64 1, .int .i64 50, .int .i64 0, .int .i64 0, .int .i64 now, .int .i64 1]) ∧ Below u.heap.size u w' from fun u => by
    have h := rton_any 1 50 0 0 0 0 now u
    have hv : tonQ 1 50 0 0 now = 0 ∧ tonE 1 50 0 0 now = 0 ∧ tonT 1 0 0 now = now ∧ tonR 1 0 = 1 := ⟨by simp [tonQ, tonD, tonT, bit], (by simp [tonE, tonD, tonT]; decide), by simp [tonT], by simp [tonR]⟩
    simpa [hv, bit] using h)
  go_wp2_with (go_at_call 31; refine (TN.out _).mono ?_; rintro e w8 ⟨rfl, hb8⟩; have q0 := (dcell hb8 hzw 0).trans k0; have g0 := (dfroz hb8 hzw 0).trans f0; have q1 := (dcell hb8 hzw 1).trans k1; have g1 := (dfroz hb8 hzw 1).trans f1; have q2 := (dcell hb8 hzw 2).trans k2; have g2 := (dfroz hb8 hzw 2).trans f2; have q3 := (dcell hb8 hzw 3).trans k3; have g3 := (dfroz hb8 hzw 3).trans f3; have q4 := (dcell hb8 hzw 4).trans k4; have g4 := (dfroz hb8 hzw 4).trans f4; have q5 := (dcell hb8 hzw 5).trans k5; have g5 := (dfroz hb8 hzw 5).trans f5; have HB8 := Lib.hid (show Below w7.heap.size w7 w8 from hb8); have hz8 := hb8.size; clear hb8 k0 k1 k2 k3 k4 k5 f0 f1 f2 f3 f4 f5)
  obtain ⟨w9, hw9⟩ : ∃ x : World, x = ((((((w8.setCell ⟨w5.heap.size + 1, 0, none⟩ (.int .i64 1)).setCell ⟨w5.heap.size + 1, 1, none⟩ (.int .i64 50)).setCell ⟨w5.heap.size + 1, 2, none⟩ (.int .i64 0)).setCell ⟨w5.heap.size + 1, 3, none⟩ (.int .i64 0)).setCell ⟨w5.heap.size + 1, 4, none⟩ (.int .i64 now)).setCell ⟨w5.heap.size + 1, 5, none⟩ (.int .i64 1)) := ⟨_, rfl⟩
  have HS9 := Lib.hid (show Six w9 (w5.heap.size + 1) 1 50 0 0 now 1 by rw [hw9]; constructor <;> go_simp)
  have hb9 : Below w5.heap.size w7 w9 := by rw [hw9]; repeat (first | exact HB8.out.mono (by omega) | refine Below.setCell ?_ (by simp) _)
  rw [← hw9]
  clear hw9 q0 q1 q2 q3 q4 q5 g0 g1 g2 g3 g4 g5
  have HW9 := Lib.hid (fun j x (hx : wasL[j]? = some x) => (dcell hb9 (show ww < w5.heap.size by omega) j).trans (HW7.out j x hx))
  have HC9 := Lib.hid (fun j x (hx : (beL 9 now)[j]? = some x) => (dcell hb9 hcg.2 j).trans (HC7.out j x hx))
  have HB9 := Lib.hid (show Below w.heap.size w w9 from HB7.out.trans (hb9.mono (by have := HB0.out.size; have := HB4.out.size; omega)))
  clear hb9
  go_loopw [13] (fun k wr => BlkRel w9 k wr) (fun k _ => 21 - (intOf k).toNat)
  case atStart => exact ⟨0, rfl, by decide, rfl⟩
  case round =>
    obtain ⟨j, rfl, hj, rfl⟩ := hrel
    obtain ⟨k0, k1, k2, k3, k4, k5, f0, f1, f2, f3, f4, f5⟩ := HS9.out
    rcases (show j = 0 ∨ j = 1 ∨ j = 2 ∨ j = 3 ∨ j = 4 ∨ j = 5 ∨ j = 6 ∨ j = 7 ∨ j = 8 ∨ j = 9 ∨ j = 10 ∨ j = 11 ∨ j = 12 ∨ j = 13 ∨ j = 14 ∨ j = 15 ∨ j = 16 ∨ j = 17 ∨ j = 18 ∨ j = 19 ∨ j = 20 ∨ j = 21 by omega) with rfl | rfl | rfl | rfl | rfl | rfl | rfl | rfl | rfl | rfl | rfl | rfl | rfl | rfl | rfl | rfl | rfl | rfl | rfl | rfl | rfl | rfl
    · have cc := HC9.out 0 (0) rfl
      have cw := HW9.out 0 (0) rfl
      go_wp2
      go_roundw
      case rel => exact ⟨1, rfl, by decide, rfl⟩
      case measure => simp [intOf]
    · have cc := HC9.out 1 (1) rfl
      have cw := HW9.out 1 (1) rfl
      go_wp2
      go_roundw
      case rel => exact ⟨2, rfl, by decide, rfl⟩
      case measure => simp [intOf]
    · have cc := HC9.out 2 (5) rfl
      have cw := HW9.out 2 (5) rfl
      go_wp2
      go_roundw
      case rel => exact ⟨3, rfl, by decide, rfl⟩
      case measure => simp [intOf]
    · have cc := HC9.out 3 (-3) rfl
      have cw := HW9.out 3 (-3) rfl
      go_wp2
      go_roundw
      case rel => exact ⟨4, rfl, by decide, rfl⟩
      case measure => simp [intOf]
    · have cc := HC9.out 4 (0) rfl
      have cw := HW9.out 4 (0) rfl
      go_wp2
      go_roundw
      case rel => exact ⟨5, rfl, by decide, rfl⟩
      case measure => simp [intOf]
    · have cc := HC9.out 5 (0) rfl
      have cw := HW9.out 5 (0) rfl
      go_wp2
      go_roundw
      case rel => exact ⟨6, rfl, by decide, rfl⟩
      case measure => simp [intOf]
    · have cc := HC9.out 6 (0) rfl
      have cw := HW9.out 6 (0) rfl
      go_wp2
      go_roundw
      case rel => exact ⟨7, rfl, by decide, rfl⟩
      case measure => simp [intOf]
    · have cc := HC9.out 7 (0) rfl
      have cw := HW9.out 7 (0) rfl
      go_wp2
      go_roundw
      case rel => exact ⟨8, rfl, by decide, rfl⟩
      case measure => simp [intOf]
    · have cc := HC9.out 8 (0) rfl
      have cw := HW9.out 8 (0) rfl
      go_wp2
      go_roundw
      case rel => exact ⟨9, rfl, by decide, rfl⟩
      case measure => simp [intOf]
    · have cc := HC9.out 9 (1) rfl
      have cw := HW9.out 9 (1) rfl
      go_wp2
      go_roundw
      case rel => exact ⟨10, rfl, by decide, rfl⟩
      case measure => simp [intOf]
    · have cc := HC9.out 10 (50) rfl
      have cw := HW9.out 10 (50) rfl
      go_wp2
      go_roundw
      case rel => exact ⟨11, rfl, by decide, rfl⟩
      case measure => simp [intOf]
    · have cc := HC9.out 11 (0) rfl
      have cw := HW9.out 11 (0) rfl
      go_wp2
      go_roundw
      case rel => exact ⟨12, rfl, by decide, rfl⟩
      case measure => simp [intOf]
    · have cc := HC9.out 12 (0) rfl
      have cw := HW9.out 12 (0) rfl
      go_wp2
      go_roundw
      case rel => exact ⟨13, rfl, by decide, rfl⟩
      case measure => simp [intOf]
    · have cc := HC9.out 13 (now) rfl
      have cw := HW9.out 13 (0) rfl
      go_wp2
      go_roundw
      case rel => exact ⟨14, rfl, by decide, rfl⟩
      case measure => simp [intOf]
    · have cc := HC9.out 14 (1) rfl
      have cw := HW9.out 14 (0) rfl
      go_wp2
      go_roundw
      case rel => exact ⟨15, rfl, by decide, rfl⟩
      case measure => simp [intOf]
    · have cc := HC9.out 15 (1) rfl
      have cw := HW9.out 15 (1) rfl
      go_wp2
      go_roundw
      case rel => exact ⟨16, rfl, by decide, rfl⟩
      case measure => simp [intOf]
    · have cc := HC9.out 16 (0) rfl
      have cw := HW9.out 16 (0) rfl
      go_wp2
      go_roundw
      case rel => exact ⟨17, rfl, by decide, rfl⟩
      case measure => simp [intOf]
    · have cc := HC9.out 17 (3) rfl
      have cw := HW9.out 17 (3) rfl
      go_wp2
      go_roundw
      case rel => exact ⟨18, rfl, by decide, rfl⟩
      case measure => simp [intOf]
    · have cc := HC9.out 18 (0) rfl
      have cw := HW9.out 18 (0) rfl
      go_wp2
      go_roundw
      case rel => exact ⟨19, rfl, by decide, rfl⟩
      case measure => simp [intOf]
    · have cc := HC9.out 19 (0) rfl
      have cw := HW9.out 19 (0) rfl
      go_wp2
      go_roundw
      case rel => exact ⟨20, rfl, by decide, rfl⟩
      case measure => simp [intOf]
    · have cc := HC9.out 20 (0) rfl
      have cw := HW9.out 20 (0) rfl
      go_wp2
      go_roundw
      case rel => exact ⟨21, rfl, by decide, rfl⟩
      case measure => simp [intOf]
    · go_wp2
      go_ret
      exact ⟨rfl, HB9.out⟩

set_option maxHeartbeats 8000000 in
set_option maxRecDepth 100000 in
theorem vmBlocks_15 (now : Int) (hnow : 0 ≤ now ∧ now ≤ 1099511627776) (a b : Int) (ha : a % 2 = 1) (hb : b % 1099511627777 = now) (w : World) :
    Calls Tryd.prog 10 #[.int .i64 a, .int .i64 b] w fun e w' => e = .returned (.bool true) ∧ Below w.heap.size w w' := by
  have KN := Lib.hid (known14_any w)
  have WN := fun W => within14_any b 1099511627777 (by decide) (by decide) W
  have WM := fun W => within14_any a 2 (by decide) (by decide) W
  rw [hb] at WN
  rw [ha] at WM
  have HWN := Lib.hid WN
  have HWM := Lib.hid WM
  clear WN WM ha hb
  go_enter Tryd.func10, Tryd.ntmps10
  go_upto_region 6 with (first | (go_at_call 17; refine (KN.out).mono ?_; rintro e w1 ⟨rfl, hb1⟩; have HB1 := Lib.hid hb1; clear hb1) | (go_at_call 21; first | (with_reducible refine (HWN.out _).mono ?_; rintro e wx ⟨rfl, rfl⟩) | (with_reducible refine (HWM.out _).mono ?_; rintro e wx ⟨rfl, rfl⟩)) | (go_at_call 30; refine (syms_any true _).mono ?_; rintro e w2 ⟨sb, rfl, hs2, hb2⟩; have HB2 := Lib.hid hb2; have HS2 := Lib.hid hs2; clear hb2 hs2))
  obtain ⟨vb, hvb⟩ : ∃ x : World, x = (((w2.alloc (.cells #[.int .u8 27, .int .u8 15, .int .u8 0] 5)).alloc (.cells #[.slice (some ⟨w2.heap.size, 0, none⟩) 3 3] 44)).alloc (.cells #[.slice (some ⟨sb, 0, none⟩) 7 7, .slice none 0 0, .slice (some ⟨w2.heap.size + 1, 0, none⟩) 1 1] 29)) := ⟨_, rfl⟩
  have hc : CodeIn vb (w2.heap.size + 2) (w2.heap.size + 1) w2.heap.size (blkB 15) := by rw [hvb]; exact code_made w2 (blkB 15) _ _ _
  have hsz : vb.heap.size = w2.heap.size + 3 := by rw [hvb]; simp
  have hb0 : Below w2.heap.size w2 vb := by rw [hvb]; exact ((((Below.refl _ w2).alloc (by simp) _).alloc (by simp) _).alloc (by simp; omega) _)
  have k0 : vb.cell? ⟨w2.heap.size + 1 + 1, 0, none⟩ = some (.slice (some ⟨sb, 0, none⟩) 7 7) := by rw [hvb]; go_simp
  have k1 : vb.cell? ⟨w2.heap.size + 1 + 1, 1, none⟩ = some (.slice none 0 0) := by rw [hvb]; go_simp
  have k2 : vb.cell? ⟨w2.heap.size + 1 + 1, 2, none⟩ = some (.slice (some ⟨w2.heap.size + 1, 0, none⟩) 1 1) := by rw [hvb]; go_simp
  rw [← hvb]
  clear hvb
  have hz1 := HB1.out.size
  have hzq := HB2.out.size
  have hm : w2.heap.size + 1 + 1 < vb.heap.size := by omega
  have HB0 := Lib.hid (show Below w.heap.size w vb from below3 HB1.out hz1 (below3 ((Below.refl _ w1).alloc (Nat.le_refl _) _) (by simp) (below3 HB2.out hzq hb0)))
  have HSV := Lib.hid (show Syms vb vb.heap.size (some ⟨sb, 0, none⟩) 7 (symsP true) from (HS2.out.below hb0).moreS (by omega))
  have HCV := Lib.hid (hc.more (B' := vb.heap.size) (by omega))
  have LC := Lib.hid (lcells_any (some ⟨sb, 0, none⟩) 7 7 (symsP true) none (some ⟨w2.heap.size + 1, 0, none⟩) 0 0 1 1 vb HSV.out (by decide) (by decide) (by decide) (symsP_size true))
  clear hc hb0 hsz hzq
  go_upto_region 7 with (go_at_call 20; refine (LC.out).mono ?_; rintro e w3 ⟨v3, rfl, ho3, hb3⟩; have HB3 := Lib.hid hb3; have HO3 := Lib.hid ho3; clear hb3 ho3)
  have hz3 := HB3.out.size
  obtain ⟨ww, wc, hv3⟩ : ∃ g c, v3 = .slice (some ⟨g, 0, none⟩) 21 c := by
    obtain ⟨g, cap, hv, _, _⟩ := HO3.out.form (by decide)
    exact ⟨g, cap, hv⟩
  subst hv3
  have ho3 : w3.ownsRow vb.heap.size 3 1 (.slice (some ⟨ww, 0, none⟩) 21 wc) 21 (([0, 1, 5, -3, 0, 0, 0, 0, 0, 0, 50, 0, 0, 0, 0, 0, 0, 3, 0, 0, 0] : List Int).map (Value.int .i64)) := by
    have h := HO3.out
    rw [begin_true] at h
    exact h
  have hlt3 := ho3.lt ww rfl
  obtain ⟨_, wc', hwc0, hwc1, hwc2⟩ := own_slice ho3
  obtain rfl : wc = wc' := by injection hwc0
  unfold maxLen at hwc2
  have c9 := own_cell ho3 9 0 rfl
  have c15 := own_cell ho3 15 0 rfl
  have f9 := ho3.frozenAt 9
  have f15 := ho3.frozenAt 15
  have hst := (ho3.stored 9 (.int .i64 1)).1
  have hst2 := (hst.stored 15 (.int .i64 1)).1
  have HWAS := Lib.hid (show ((w3.setCell ⟨ww, 9, none⟩ (.int .i64 1)).setCell ⟨ww, 15, none⟩ (.int .i64 1)).ownsRow vb.heap.size 3 1 (.slice (some ⟨ww, 0, none⟩) 21 wc) 21 (wasL.map (Value.int .i64)) from hst2)
  have HB4 := Lib.hid (show Below vb.heap.size vb ((w3.setCell ⟨ww, 9, none⟩ (.int .i64 1)).setCell ⟨ww, 15, none⟩ (.int .i64 1)) from (HB3.out.setCell hlt3.1 _).setCell hlt3.1 _)
  have hz4 : ((w3.setCell ⟨ww, 9, none⟩ (.int .i64 1)).setCell ⟨ww, 15, none⟩ (.int .i64 1)).heap.size = w3.heap.size := by simp
  clear ho3 hst hst2 HO3 hwc0
  go_upto_region 8 with fail
  obtain ⟨w4, hw4⟩ : ∃ x : World, x = ((w3.setCell ⟨ww, 9, none⟩ (.int .i64 1)).setCell ⟨ww, 15, none⟩ (.int .i64 1)) := ⟨_, rfl⟩
  rw [← hw4] at HWAS HB4 hz4
  rw [← hw4]
  clear hw4 c9 c15 f9 f15
  have m0 := (dcell HB4.out hm 0).trans k0
  have m1 := (dcell HB4.out hm 1).trans k1
  have m2 := (dcell HB4.out hm 2).trans k2
  have hle4 : vb.heap.size ≤ w4.heap.size := by omega
  have RN := Lib.hid (runS (w := w4) (SA := some ⟨sb, 0, none⟩) (SC := 7) (l := symsP true) (consts := []) (Ca := none) (Cc := 0) (b := blkB 15) ((HSV.out.below HB4.out).moreS hle4) (by decide) (by decide) Row.nil (by decide) ((HCV.out.below HB4.out).more hle4) (by decide) (by decide) (symsP_len true) (some ⟨ww, 0, none⟩) 21 wc wasL (Row.of_own HWAS.out) (by decide) hwc1 0 0 0 0 0 0 0 0 now 9 (by decide) (fun La Lc => blk_run _ none La 7 0 Lc _ _ 15 (by decide) now))
  clear k0 k1 k2 hlt3
  have hwcI : (21 : Int) ≤ wc := by omega
  go_upto_region 11 with (go_at_call 22; refine (RN.out).mono ?_; rintro e w5 ⟨hb5, hr, _⟩; obtain ⟨v5, rfl, ho5⟩ := hr rfl; have ho5 : w5.ownsRow w4.heap.size 3 1 v5 21 ((beL 15 now).map (Value.int .i64)) := ho5; obtain ⟨A5, c5, rfl, hc51, hc52⟩ := own_slice ho5; have HB5 := Lib.hid hb5; have HO5 := Lib.hid ho5; clear hb5 ho5)
  unfold maxLen at hc52
  have hz5 := HB5.out.size
  obtain ⟨cg, hA5⟩ : ∃ g, A5 = some ⟨g, 0, none⟩ := by
    obtain ⟨g, cap, hv, _, _⟩ := HO5.out.form (by decide)
    exact ⟨g, by injection hv⟩
  subst hA5
  have hcg := HO5.out.lt cg rfl
  have hww := HWAS.out.lt ww rfl
  go_upto_region 12 with fail
  obtain ⟨w6, hw6⟩ : ∃ x : World, x = ((w5.alloc (.cells #[.int .i64 0, .int .i64 0, .int .i64 0, .int .i64 0] 23)).alloc (.cells #[.int .i64 0, .int .i64 0, .int .i64 0, .int .i64 0, .int .i64 0, .int .i64 0] 60)) := ⟨_, rfl⟩
  have hz6 : w6.heap.size = w5.heap.size + 2 := by rw [hw6]; simp
  have hbox : w6.heap[w5.heap.size + 1]? = some (.cells #[.int .i64 0, .int .i64 0, .int .i64 0, .int .i64 0, .int .i64 0, .int .i64 0] 60 (0, 0)) := by rw [hw6]; exact heap_topE _ _ _ (by simp)
  have hb6 : Below w5.heap.size w5 w6 := by rw [hw6]; exact (((Below.refl _ _).alloc (Nat.le_refl _) _).alloc (by simp) _)
  rw [← hw6]
  clear hw6
  have hwx : ww < w6.heap.size := by omega
  have HW6 := Lib.hid (fun j x (hx : wasL[j]? = some x) => (dcell hb6 (show ww < w5.heap.size by omega) j).trans ((dcell HB5.out hww.2 j).trans (own_cell HWAS.out j x hx)))
  have HC6 := Lib.hid (fun j x (hx : (beL 15 now)[j]? = some x) => (dcell hb6 hcg.2 j).trans (own_cell HO5.out j x hx))
  have HB6 := Lib.hid (show Below w.heap.size w w6 from below3 HB0.out HB0.out.size (below3 HB4.out HB4.out.size (below3 HB5.out HB5.out.size hb6)))
  have cp := run_copy6 w6.drew 3 (w5.heap.size + 1) 0 6 6 ⟨ww, 15, none⟩ (wc - 15) 60 _ hbox 1 0 3 0 0 0 (by decide) (by decide) (fun j v hv => by
    rw [Addr.add_lit]
    have hj : j < 6 := by have := (List.getElem?_eq_some_iff.1 hv).1; simpa using this
    rcases (show j = 0 ∨ j = 1 ∨ j = 2 ∨ j = 3 ∨ j = 4 ∨ j = 5 by omega) with rfl | rfl | rfl | rfl | rfl | rfl <;> (simp at hv; subst hv; exact HW6.out _ _ rfl))
  have HBOX := Lib.hid hbox
  have hwcx : ((15 : Nat) : Int) + 6 ≤ wc := by omega
  have hwn : ¬ ww = w5.heap.size + 1 := by omega
  clear hbox
  go_region
  obtain ⟨w7, hw7⟩ : ∃ x : World, x = setCells w6.drew (w5.heap.size + 1) 0 [1, 0, 3, 0, 0, 0] := ⟨_, rfl⟩
  have HS7 := Lib.hid (show Six w7 (w5.heap.size + 1) 1 0 3 0 0 0 by rw [hw7]; exact six_sets (w := w6.drew) HBOX.out (by decide) 1 0 3 0 0 0)
  have hb7 : Below w5.heap.size w6 w7 := by rw [hw7]; exact below_sets _ _ _ (Below.refl _ _).drew (by omega)
  have hz7 : w7.heap.size = w5.heap.size + 2 := by rw [hw7, size_sets]; exact hz6
  rw [← hw7]
  clear hw7 cp
  have HW7 := Lib.hid (fun j x (hx : wasL[j]? = some x) => (dcell hb7 (show ww < w5.heap.size by omega) j).trans (HW6.out j x hx))
  have HC7 := Lib.hid (fun j x (hx : (beL 15 now)[j]? = some x) => (dcell hb7 hcg.2 j).trans (HC6.out j x hx))
  have HB7 := Lib.hid (show Below w.heap.size w w7 from HB6.out.trans (hb7.mono (by have := HB0.out.size; have := HB4.out.size; omega)))
  clear hb7
  obtain ⟨k0, k1, k2, k3, k4, k5, f0, f1, f2, f3, f4, f5⟩ := HS7.out
  have hzw : w5.heap.size + 1 < w7.heap.size := by omega
  have TN := Lib.hid (show ∀ u, Calls Tryd.prog 32 #[.agg #[.int .i64 1, .int .i64 0, .int .i64 3, .int .i64 0, .int .i64 0, .int .i64 0]] u fun e w' => e = .returned (.agg #[.int .i64 1, .int .i64 0, .int .i64 3, .int .i64 0, .int .i64 1, .int .i64 1]) ∧ Below u.heap.size u w' from fun u => by
    have h := rctu_any 1 0 3 0 0 0 u (by decide)
    have hv : ctuV 1 0 0 0 = 1 := by decide
    simpa [hv, bit] using h)
  go_wp2_with (go_at_call 32; refine (TN.out _).mono ?_; rintro e w8 ⟨rfl, hb8⟩; have q0 := (dcell hb8 hzw 0).trans k0; have g0 := (dfroz hb8 hzw 0).trans f0; have q1 := (dcell hb8 hzw 1).trans k1; have g1 := (dfroz hb8 hzw 1).trans f1; have q2 := (dcell hb8 hzw 2).trans k2; have g2 := (dfroz hb8 hzw 2).trans f2; have q3 := (dcell hb8 hzw 3).trans k3; have g3 := (dfroz hb8 hzw 3).trans f3; have q4 := (dcell hb8 hzw 4).trans k4; have g4 := (dfroz hb8 hzw 4).trans f4; have q5 := (dcell hb8 hzw 5).trans k5; have g5 := (dfroz hb8 hzw 5).trans f5; have HB8 := Lib.hid (show Below w7.heap.size w7 w8 from hb8); have hz8 := hb8.size; clear hb8 k0 k1 k2 k3 k4 k5 f0 f1 f2 f3 f4 f5)
  obtain ⟨w9, hw9⟩ : ∃ x : World, x = ((((((w8.setCell ⟨w5.heap.size + 1, 0, none⟩ (.int .i64 1)).setCell ⟨w5.heap.size + 1, 1, none⟩ (.int .i64 0)).setCell ⟨w5.heap.size + 1, 2, none⟩ (.int .i64 3)).setCell ⟨w5.heap.size + 1, 3, none⟩ (.int .i64 0)).setCell ⟨w5.heap.size + 1, 4, none⟩ (.int .i64 1)).setCell ⟨w5.heap.size + 1, 5, none⟩ (.int .i64 1)) := ⟨_, rfl⟩
  have HS9 := Lib.hid (show Six w9 (w5.heap.size + 1) 1 0 3 0 1 1 by rw [hw9]; constructor <;> go_simp)
  have hb9 : Below w5.heap.size w7 w9 := by rw [hw9]; repeat (first | exact HB8.out.mono (by omega) | refine Below.setCell ?_ (by simp) _)
  rw [← hw9]
  clear hw9 q0 q1 q2 q3 q4 q5 g0 g1 g2 g3 g4 g5
  have HW9 := Lib.hid (fun j x (hx : wasL[j]? = some x) => (dcell hb9 (show ww < w5.heap.size by omega) j).trans (HW7.out j x hx))
  have HC9 := Lib.hid (fun j x (hx : (beL 15 now)[j]? = some x) => (dcell hb9 hcg.2 j).trans (HC7.out j x hx))
  have HB9 := Lib.hid (show Below w.heap.size w w9 from HB7.out.trans (hb9.mono (by have := HB0.out.size; have := HB4.out.size; omega)))
  clear hb9
  go_loopw [13] (fun k wr => BlkRel w9 k wr) (fun k _ => 21 - (intOf k).toNat)
  case atStart => exact ⟨0, rfl, by decide, rfl⟩
  case round =>
    obtain ⟨j, rfl, hj, rfl⟩ := hrel
    obtain ⟨k0, k1, k2, k3, k4, k5, f0, f1, f2, f3, f4, f5⟩ := HS9.out
    rcases (show j = 0 ∨ j = 1 ∨ j = 2 ∨ j = 3 ∨ j = 4 ∨ j = 5 ∨ j = 6 ∨ j = 7 ∨ j = 8 ∨ j = 9 ∨ j = 10 ∨ j = 11 ∨ j = 12 ∨ j = 13 ∨ j = 14 ∨ j = 15 ∨ j = 16 ∨ j = 17 ∨ j = 18 ∨ j = 19 ∨ j = 20 ∨ j = 21 by omega) with rfl | rfl | rfl | rfl | rfl | rfl | rfl | rfl | rfl | rfl | rfl | rfl | rfl | rfl | rfl | rfl | rfl | rfl | rfl | rfl | rfl | rfl
    · have cc := HC9.out 0 (0) rfl
      have cw := HW9.out 0 (0) rfl
      go_wp2
      go_roundw
      case rel => exact ⟨1, rfl, by decide, rfl⟩
      case measure => simp [intOf]
    · have cc := HC9.out 1 (1) rfl
      have cw := HW9.out 1 (1) rfl
      go_wp2
      go_roundw
      case rel => exact ⟨2, rfl, by decide, rfl⟩
      case measure => simp [intOf]
    · have cc := HC9.out 2 (5) rfl
      have cw := HW9.out 2 (5) rfl
      go_wp2
      go_roundw
      case rel => exact ⟨3, rfl, by decide, rfl⟩
      case measure => simp [intOf]
    · have cc := HC9.out 3 (-3) rfl
      have cw := HW9.out 3 (-3) rfl
      go_wp2
      go_roundw
      case rel => exact ⟨4, rfl, by decide, rfl⟩
      case measure => simp [intOf]
    · have cc := HC9.out 4 (0) rfl
      have cw := HW9.out 4 (0) rfl
      go_wp2
      go_roundw
      case rel => exact ⟨5, rfl, by decide, rfl⟩
      case measure => simp [intOf]
    · have cc := HC9.out 5 (0) rfl
      have cw := HW9.out 5 (0) rfl
      go_wp2
      go_roundw
      case rel => exact ⟨6, rfl, by decide, rfl⟩
      case measure => simp [intOf]
    · have cc := HC9.out 6 (0) rfl
      have cw := HW9.out 6 (0) rfl
      go_wp2
      go_roundw
      case rel => exact ⟨7, rfl, by decide, rfl⟩
      case measure => simp [intOf]
    · have cc := HC9.out 7 (0) rfl
      have cw := HW9.out 7 (0) rfl
      go_wp2
      go_roundw
      case rel => exact ⟨8, rfl, by decide, rfl⟩
      case measure => simp [intOf]
    · have cc := HC9.out 8 (0) rfl
      have cw := HW9.out 8 (0) rfl
      go_wp2
      go_roundw
      case rel => exact ⟨9, rfl, by decide, rfl⟩
      case measure => simp [intOf]
    · have cc := HC9.out 9 (1) rfl
      have cw := HW9.out 9 (1) rfl
      go_wp2
      go_roundw
      case rel => exact ⟨10, rfl, by decide, rfl⟩
      case measure => simp [intOf]
    · have cc := HC9.out 10 (50) rfl
      have cw := HW9.out 10 (50) rfl
      go_wp2
      go_roundw
      case rel => exact ⟨11, rfl, by decide, rfl⟩
      case measure => simp [intOf]
    · have cc := HC9.out 11 (0) rfl
      have cw := HW9.out 11 (0) rfl
      go_wp2
      go_roundw
      case rel => exact ⟨12, rfl, by decide, rfl⟩
      case measure => simp [intOf]
    · have cc := HC9.out 12 (0) rfl
      have cw := HW9.out 12 (0) rfl
      go_wp2
      go_roundw
      case rel => exact ⟨13, rfl, by decide, rfl⟩
      case measure => simp [intOf]
    · have cc := HC9.out 13 (0) rfl
      have cw := HW9.out 13 (0) rfl
      go_wp2
      go_roundw
      case rel => exact ⟨14, rfl, by decide, rfl⟩
      case measure => simp [intOf]
    · have cc := HC9.out 14 (0) rfl
      have cw := HW9.out 14 (0) rfl
      go_wp2
      go_roundw
      case rel => exact ⟨15, rfl, by decide, rfl⟩
      case measure => simp [intOf]
    · have cc := HC9.out 15 (1) rfl
      have cw := HW9.out 15 (1) rfl
      go_wp2
      go_roundw
      case rel => exact ⟨16, rfl, by decide, rfl⟩
      case measure => simp [intOf]
    · have cc := HC9.out 16 (0) rfl
      have cw := HW9.out 16 (0) rfl
      go_wp2
      go_roundw
      case rel => exact ⟨17, rfl, by decide, rfl⟩
      case measure => simp [intOf]
    · have cc := HC9.out 17 (3) rfl
      have cw := HW9.out 17 (3) rfl
      go_wp2
      go_roundw
      case rel => exact ⟨18, rfl, by decide, rfl⟩
      case measure => simp [intOf]
    · have cc := HC9.out 18 (0) rfl
      have cw := HW9.out 18 (0) rfl
      go_wp2
      go_roundw
      case rel => exact ⟨19, rfl, by decide, rfl⟩
      case measure => simp [intOf]
    · have cc := HC9.out 19 (1) rfl
      have cw := HW9.out 19 (0) rfl
      go_wp2
      go_roundw
      case rel => exact ⟨20, rfl, by decide, rfl⟩
      case measure => simp [intOf]
    · have cc := HC9.out 20 (1) rfl
      have cw := HW9.out 20 (0) rfl
      go_wp2
      go_roundw
      case rel => exact ⟨21, rfl, by decide, rfl⟩
      case measure => simp [intOf]
    · go_wp2
      go_ret
      exact ⟨rfl, HB9.out⟩

theorem vmBlocks_walk (a0 a1 : Int) (w : World) (w0 : I64 a0) (w1 : I64 a1) :
    Calls Tryd.prog 10 #[.int .i64 a0, .int .i64 a1] w fun e w' => e = .returned (.bool true) ∧ Below w.heap.size w w' := by
  have hn : 0 ≤ a1 % 1099511627777 ∧ a1 % 1099511627777 ≤ 1099511627776 := by omega
  by_cases h : a0 % 2 = 0
  · exact vmBlocks_9 (a1 % 1099511627777) hn a0 a1 h rfl w
  · exact vmBlocks_15 (a1 % 1099511627777) hn a0 a1 (by omega) rfl w
end Go.Proofs.YtngobbbinacomaaDoor
