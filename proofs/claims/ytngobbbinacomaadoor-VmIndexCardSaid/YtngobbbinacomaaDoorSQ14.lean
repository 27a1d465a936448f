/- Chapter 14: VmIndex, walked. -/
import Derived.Test.YtngobbbinacomaaDoorSR14
import Derived.Test.YtngobbbinacomaaDoorRP14
import Derived.Deep.DeepCutAuto
import Derived.Deep.RegionHeld3
import Derived.BigRegion
namespace Go.Proofs.YtngobbbinacomaaDoor
open Go.RowKit Go.Proofs.YtngobbbinacomaaDoor.c11 Go.Proofs.YtngobbbinacomaaDoor.c10 Go.Proofs.YtngobbbinacomaaDoor.c13
set_option linter.unusedVariables false
set_option linter.unusedSimpArgs false
attribute [local go_sem ↓] Go.wp_at_zero Go.wp_at_succ

theorem ix_at0 (N j m : Nat) (v : Int) (h : m = 0) : ((begX N).set (1 + j) v)[m]? = some 4 := by
  subst h
  rw [List.getElem?_set_ne (by omega)]
  rfl
theorem ix_atj (N j m : Nat) (v : Int) (h : m = j + 1) (hj : j < N) : ((begX N).set (1 + j) v)[m]? = some v := by
  subst h
  rw [show j + 1 = 1 + j by omega, List.getElem?_set_self (by rw [begX_len]; omega)]
theorem ix_atN (N j m : Nat) (v : Int) (h : m = N + 1) (hj : j < N) : ((begX N).set (1 + j) v)[m]? = some 6 := by
  subst h
  rw [List.getElem?_set_ne (by omega), begX, List.getElem?_cons_succ, List.getElem?_append_right (by simp)]
  simp
theorem ix_at (N j m : Nat) (v : Int) (h1 : m ≠ 0) (h2 : m ≠ j + 1) (h3 : m ≠ N + 1) (hm : m < N + 2) : ((begX N).set (1 + j) v)[m]? = some 0 := by
  obtain ⟨k, rfl⟩ : ∃ k, m = k + 1 := ⟨m - 1, by omega⟩
  rw [List.getElem?_set_ne (by omega), begX, List.getElem?_cons_succ, List.getElem?_append_left (by simp; omega), List.getElem?_replicate, if_pos (by omega)]
theorem keepM {u1 W' : World} {B m : Nat} {a0 a1 a2 : Value} (hb : Below B u1 W') (h : m < B) (k0 : u1.cell? ⟨m, 0, none⟩ = some a0) (k1 : u1.cell? ⟨m, 1, none⟩ = some a1) (k2 : u1.cell? ⟨m, 2, none⟩ = some a2) :
    W'.cell? ⟨m, 0, none⟩ = some a0 ∧ W'.cell? ⟨m, 1, none⟩ = some a1 ∧ W'.cell? ⟨m, 2, none⟩ = some a2 := ⟨(dcell hb h 0).trans k0, (dcell hb h 1).trans k1, (dcell hb h 2).trans k2⟩
/-- What VmIndex' run answers: an index outside, or one within. -/
def IxRan (N : Nat) (I V : Int) (u : World) (e : Ending) (w' : World) : Prop :=
  Below u.heap.size u w' ∧ ∃ (v : Value) (o k x : Int), e = .returned (.tuple #[v, .agg #[.int .i64 o, .int .i64 0, .int .i64 0, .int .i64 0], .int .i64 k, .int .i64 x]) ∧ (∀ b, b < u.heap.size ∨ w'.heap.size ≤ b → v.ownBlock ≠ some b) ∧
    (((I < 0 ∨ (N : Int) ≤ I) ∧ v = .slice none 0 0 ∧ o = 0 ∧ k = 3 ∧ x = 22) ∨ (∃ j : Nat, I = j ∧ j < N ∧ o = V ∧ k = 7 ∧ x = 0 ∧ w'.ownsRow u.heap.size 3 1 v (N + 2) (((begX N).set (1 + j) V).map (Value.int .i64))))

set_option maxHeartbeats 8000000 in
set_option maxRecDepth 100000 in
theorem vmIndex_of (a b c I0 V I : Int) (N : Nat) (hN : Eight N) (hc : c % 8 = (N : Int) - 1) (ha : wrapK 5 a = I0) (hb : wrapK 5 b = V) (hI : (V % 2 = 0 ∧ I = I0 % (N + 2) - 1) ∨ (V % 2 = 1 ∧ I = I0)) (w : World) :
    Calls Tryd.prog 5 #[.int .i64 a, .int .i64 b, .int .i64 c] w fun e w' => e = .returned (.bool true) ∧ Below w.heap.size w w' := by
  have h8 : 1 ≤ N ∧ N ≤ 8 := by unfold Eight at hN; omega
  have KN := Lib.hid (fun W => known14_any W)
  have WC := fun W => within14_any c 8 (by decide) (by decide) W
  rw [hc] at WC
  have HWC := Lib.hid WC
  have WA := fun W => rwrap_any 5 a W
  have WB := fun W => rwrap_any 5 b W
  rw [ha] at WA
  rw [hb] at WB
  have HWA := Lib.hid WA
  have HWB := Lib.hid WB
  have HW2 := Lib.hid (fun W => within14_any V 2 (by decide) (by decide) W)
  have HWN := Lib.hid (fun W => within14_any I0 ((N : Int) + 2) (by omega) (by omega) W)
  have mk := make_intsC N (by omega)
  have e1 : IntKind.i64.wrap (1 + ((N : Int) - 1)) = N := by rw [show 1 + ((N : Int) - 1) = N by omega]; exact IntWalk.i64_in _ (by omega)
  have e2 : wrap64 (1 + ((N : Int) - 1)) = N := by rw [show 1 + ((N : Int) - 1) = N by omega]; exact IntWalk.wrap64_in _ (by omega)
  have hm2 : 0 ≤ I0 % ((N : Int) + 2) ∧ I0 % ((N : Int) + 2) < N + 2 := ⟨Int.emod_nonneg _ (by omega), Int.emod_lt_of_pos _ (by omega)⟩
  have hI5 : wrapK 5 I = I := by
    have h1 : wrapK 5 I0 = I0 := by rw [← ha]; exact wrapK5 a
    rcases hI with ⟨_, rfl⟩ | ⟨_, rfl⟩
    · simp [wrapK]; unfold wrap32; omega
    · exact h1
  have hV5 : wrapK 5 V = V := by rw [← hb]; exact wrapK5 b
  clear WC WA WB ha hb hc
  have RU := Lib.hid (fun (u : World) (H ww wcp B : Nat) (h : IxMade u H N) (ho : u.ownsRow B 3 1 (.slice (some ⟨ww, 0, none⟩) (N + 2) wcp) (N + 2) ((begX N).map (Value.int .i64))) (hc : N + 2 ≤ wcp) => show Calls Tryd.prog 22 #[.agg #[.slice (some ⟨H + 1 + 1 + 1, 0, none⟩) 3 3, .slice none 0 0, .slice (some ⟨H + 1 + 1 + 1 + 1 + 1, 0, none⟩) 1 1], .slice (some ⟨ww, 0, none⟩) (N + 2) wcp, .agg #[.int .i64 I, .int .i64 V, .int .i64 0, .int .i64 0], .agg #[.int .i64 0, .int .i64 0, .int .i64 0, .int .i64 0], .int .i64 0, .int .i64 20] u fun e w' => IxRan N I V u e w' from by
    by_cases hin : 0 ≤ I ∧ I < N
    · obtain ⟨k, rfl⟩ := Int.eq_ofNat_of_zero_le hin.1
      refine (ix_run h hN ho hc k V (fun SA SC Ca Cc f g La Lc => ix_in N hN SA Ca La SC Cc 13 f g Lc k V (by omega) hI5 hV5)).mono ?_
      rintro e w' ⟨h1, h2, _⟩
      obtain ⟨v, h3, h4⟩ := h2 rfl
      refine ⟨h1, v, V, 7, 0, h3, fun b hb e => ?_, .inr ⟨k, rfl, by omega, rfl, rfl, rfl, ?_⟩⟩
      · have := h4.lt b e; omega
      rw [List.length_set, begX_len] at h4
      exact h4
    · refine (ix_run h hN ho hc I V (fun SA SC Ca Cc f g La Lc => ix_out N hN SA Ca La SC Cc 13 f g Lc I V (by omega) hI5 hV5)).mono ?_
      rintro e w' ⟨h1, _, h2⟩
      exact ⟨h1, .slice none 0 0, 0, 3, 22, h2 (by decide), (fun b hb e => by simp [Value.ownBlock] at e), .inl ⟨by omega, rfl, rfl, rfl, rfl⟩⟩)
  rcases hI with ⟨hv, hI⟩ | ⟨hv, hI⟩
  all_goals
    rw [hv] at HW2
    go_enter Tryd.func5, Tryd.ntmps5
    go_wp2_with (first | (go_at_call 17; refine (KN.out _).mono ?_; rintro e w1 ⟨rfl, hb1⟩; have HB1 := Lib.hid hb1; clear hb1) | (go_at_call 21; first | (with_reducible refine (HWC.out _).mono ?_; rintro e wx ⟨rfl, rfl⟩) | (with_reducible refine (HW2.out _).mono ?_; rintro e wx ⟨rfl, rfl⟩) | (with_reducible refine (HWN.out _).mono ?_; rintro e wx ⟨rfl, rfl⟩)) | (go_at_call 26; first | (with_reducible refine (HWA.out _).mono ?_; rintro e wx ⟨rfl, rfl⟩) | (with_reducible refine (HWB.out _).mono ?_; rintro e wx ⟨rfl, rfl⟩)))
    obtain ⟨wb, hwb⟩ : ∃ x : World, x = ixWorld w1 N := ⟨_, rfl⟩
    have hmb := ix_made w1 N hN
    rw [← hwb] at hmb
    have HM := Lib.hid hmb.1
    have HB2 := Lib.hid (below3 HB1.out HB1.out.size hmb.2)
    refine Eq.mp (congrArg (fun u => Calls Tryd.prog 28 _ u _) (show wb = _ from hwb)) ?_
    clear hwb hmb
    refine (ix_check HM.out hN).mono ?_
    rintro e w3 ⟨rfl, hb3⟩
    have HB3 := Lib.hid (below3 HB2.out HB2.out.size hb3)
    have HM3 := Lib.hid (HM.out.below hb3)
    clear hb3 HB2 HM
    have m0 := HM3.out.m0
    have m1 := HM3.out.m1
    have m2 := HM3.out.m2
    have hlm : w1.heap.size + 1 + 1 + 1 + 1 + 1 + 1 < w3.heap.size := by have := HM3.out.lt; omega
    go_wp2_with fail
    rw [← hI]
    clear hI HW2 HWN HWA HWB HWC KN mk e1 e2 hm2
    have LC := Lib.hid (fun u (hu : Below w3.heap.size w3 u) => ix_cells (HM3.out.below hu) hN)
    have LR := Lib.hid (fun u ww wcp B (hu : Below w3.heap.size w3 u) (ho : u.ownsRow B 3 1 (.slice (some ⟨ww, 0, none⟩) (N + 2) wcp) (N + 2) ((begX N).map (Value.int .i64))) (hc : N + 2 ≤ wcp) => RU.out u w1.heap.size ww wcp B (HM3.out.below hu) ho hc)
    go_cut [8, 9, 10, 11] (fun c8 c9 c10 c11 wx => ∃ (v : Value) (g : Nat) (o k x : Int), c8 = v ∧ c9 = .pointer (some ⟨g, 0, none⟩) ∧ c10 = .int .i64 k ∧ c11 = .int .i64 x ∧ wx.cell? ⟨g, 0, none⟩ = some (.int .i64 o) ∧ Below w3.heap.size w3 wx ∧ (((I < 0 ∨ (N : Int) ≤ I) ∧ v = .slice none 0 0 ∧ o = 0 ∧ k = 3 ∧ x = 22) ∨ (∃ j : Nat, I = j ∧ j < N ∧ o = V ∧ k = 7 ∧ x = 0 ∧ wx.ownsRow 0 3 1 v (N + 2) (((begX N).set (1 + j) V).map (Value.int .i64)))))
    case first =>
      go_region_held3 (fun w' => w'.cell? ⟨w1.heap.size + 1 + 1 + 1 + 1 + 1 + 1, 0, none⟩ = some (.slice (some ⟨w1.heap.size + 1 + 1 + 1, 0, none⟩) 3 3) ∧ w'.cell? ⟨w1.heap.size + 1 + 1 + 1 + 1 + 1 + 1, 1, none⟩ = some (.slice none 0 0) ∧ w'.cell? ⟨w1.heap.size + 1 + 1 + 1 + 1 + 1 + 1, 2, none⟩ = some (.slice (some ⟨w1.heap.size + 1 + 1 + 1 + 1 + 1, 0, none⟩) 1 1)) (first | exact keepM (u1 := w3) (by repeat (first | (with_reducible exact HB4.out) | (with_reducible exact HB5.out) | (with_reducible exact Below.refl _ _) | (with_reducible refine Below.setCell ?_ (by first | omega | (simp; done) | (simp; omega)) _) | (with_reducible refine Below.drew ?_) | (with_reducible refine Below.alloc ?_ (by first | omega | (simp; done) | (simp; omega)) _))) hlm m0 m1 m2)
        (first
          | (go_at_call 20; refine (LC.out _ (by repeat (first | (with_reducible exact HB4.out) | (with_reducible exact HB5.out) | (with_reducible exact Below.refl _ _) | (with_reducible refine Below.setCell ?_ (by first | omega | (simp; done) | (simp; omega)) _) | (with_reducible refine Below.drew ?_) | (with_reducible refine Below.alloc ?_ (by first | omega | (simp; done) | (simp; omega)) _)))).mono ?_; rintro e w4 ⟨⟨ww, wcp, rfl, hc1, ho4⟩, hb4⟩; have HO4 := Lib.hid ho4; have z4 := hb4.size; (try simp at z4); have HB4 := Lib.hid (show Below w3.heap.size w3 w4 from Below.trans (by repeat (first | (with_reducible exact HB4.out) | (with_reducible exact HB5.out) | (with_reducible exact Below.refl _ _) | (with_reducible refine Below.setCell ?_ (by first | omega | (simp; done) | (simp; omega)) _) | (with_reducible refine Below.drew ?_) | (with_reducible refine Below.alloc ?_ (by first | omega | (simp; done) | (simp; omega)) _))) (hb4.mono (by first | omega | (simp; done) | (simp; omega)))); (try have p4 := dcell hb4 (b := w3.heap.size) (by first | omega | (simp; done) | (simp; omega))); (try have p4f := dfroz hb4 (b := w3.heap.size) (by first | omega | (simp; done) | (simp; omega))); clear ho4 hb4)
          | (go_at_call 22; refine (LR.out _ _ _ _ (by repeat (first | (with_reducible exact HB4.out) | (with_reducible exact HB5.out) | (with_reducible exact Below.refl _ _) | (with_reducible refine Below.setCell ?_ (by first | omega | (simp; done) | (simp; omega)) _) | (with_reducible refine Below.drew ?_) | (with_reducible refine Below.alloc ?_ (by first | omega | (simp; done) | (simp; omega)) _))) (by first | exact HO4.out | exact HO4.out.alloc _) hc1).mono ?_; rintro e w5 ⟨hb5, v5, o5, k5, x5, rfl, hfar, hx5⟩; have HX5 := Lib.hid hx5; have HFAR := Lib.hid hfar; have z5 := hb5.size; (try simp at z5); (try have y3 : v5.ownBlock ≠ some w3.heap.size := hfar _ (by first | omega | (simp; done) | (simp; omega))); (try have y4 : v5.ownBlock ≠ some w4.heap.size := hfar _ (by first | omega | (simp; done) | (simp; omega))); have y5 : v5.ownBlock ≠ some w5.heap.size := hfar _ (.inr (Nat.le_refl _)); have HB5 := Lib.hid (show Below w3.heap.size w3 w5 from Below.trans (by repeat (first | (with_reducible exact HB4.out) | (with_reducible exact HB5.out) | (with_reducible exact Below.refl _ _) | (with_reducible refine Below.setCell ?_ (by first | omega | (simp; done) | (simp; omega)) _) | (with_reducible refine Below.drew ?_) | (with_reducible refine Below.alloc ?_ (by first | omega | (simp; done) | (simp; omega)) _))) (hb5.mono (by first | omega | (simp; done) | (simp; omega)))); (try have p5 := dcell hb5 (b := w3.heap.size) (by first | omega | (simp; done) | (simp; omega))); (try have p5f := dfroz hb5 (b := w3.heap.size) (by first | omega | (simp; done) | (simp; omega))); (try have p6 := dcell hb5 (b := w4.heap.size) (by first | omega | (simp; done) | (simp; omega))); (try have p6f := dfroz hb5 (b := w4.heap.size) (by first | omega | (simp; done) | (simp; omega))); clear hb5 hx5 hfar))
      all_goals (try go_wp2_with fail)
      all_goals go_meet
      all_goals
        refine ⟨v5, _, o5, k5, x5, rfl, rfl, rfl, rfl, by go_simp, ?_, ?_⟩
        · repeat (first | (with_reducible exact HB4.out) | (with_reducible exact HB5.out) | (with_reducible exact Below.refl _ _) | (with_reducible refine Below.setCell ?_ (by first | omega | (simp; done) | (simp; omega)) _) | (with_reducible refine Below.drew ?_) | (with_reducible refine Below.alloc ?_ (by first | omega | (simp; done) | (simp; omega)) _))
        · rcases HX5.out with h | ⟨j, q1, q2, q3, q4, q5, q6⟩
          · exact .inl h
          · refine .inr ⟨j, q1, q2, q3, q4, q5, ?_⟩
            repeat (first | (with_reducible exact own_base q6 (Nat.zero_le _)) | (with_reducible refine own_setFar ?_ (by assumption) _) | (with_reducible refine World.ownsRow.alloc ?_ _) | (with_reducible refine own_dr ?_))
    case rest =>
      obtain ⟨v5, g5, o5, k5, x5, hv5, rfl, rfl, rfl, ho5, hb5, hx5⟩ := hcut
      subst hv5
      have HBX := Lib.hid (HB3.out.trans (hb5.mono HB3.out.size))
      clear hb5 HM3 LC LR RU
      rcases hx5 with ⟨hI, rfl, rfl, rfl, rfl⟩ | ⟨j, rfl, hj, rfl, rfl, rfl, hrow⟩
      · rcases hI with hI | hI
        · go_wp2_with fail
          go_ret
          exact ⟨rfl, HBX.out⟩
        · have hI' : ¬ I < 0 := by omega
          go_wp2_with fail
          go_ret
          exact ⟨rfl, HBX.out⟩
      · have hj0 : ¬ (j : Int) < 0 := by omega
        have hjN : ¬ (N : Int) ≤ j := by omega
        have hj1 : (j : Int) < N := by omega
        obtain ⟨cg, cc, hcg, _, _⟩ := hrow.form (by omega)
        subst hcg
        obtain ⟨_, cc', hx0, hx1, hx2⟩ := own_slice hrow
        obtain rfl : cc = cc' := by injection hx0
        unfold maxLen at hx2
        have hcl := (hrow.lt cg rfl).2
        have HC := Lib.hid (fun q x hq => own_at hrow q x hq)
        have hccI : ((N + 2 : Nat) : Int) ≤ cc := by omega
        have hccJ : (N : Int) + 2 ≤ cc := by omega
        obtain ⟨wq, hwq⟩ : ∃ x : World, x = wc := ⟨_, rfl⟩
        subst hwq
        have hgb : g5 < wq.heap.size := by
          rcases Nat.lt_or_ge g5 wq.heap.size with h | h
          · exact h
          · rw [World.cell?] at ho5; simp [Array.getElem?_eq_none h] at ho5
        have HO5 := Lib.hid ho5
        clear hrow hx0
        go_wp2_with fail
        go_loopw [12] (fun i wr => LoopRel wq (N + 2) i wr) (fun i _ => N + 2 - (intOf i).toNat)
        case atStart => exact ⟨0, rfl, Nat.zero_le _, Below.refl _ _⟩
        case round =>
          obtain ⟨m, rfl, hm, hbm⟩ := hrel
          have HBM := Lib.hid hbm
          by_cases hml : m < N + 2
          · have hmI : (m : Int) < ((N + 2 : Nat) : Int) := by omega
            have hmJ : (m : Int) < (N : Int) + 2 := by omega
            have cm := fun x (hx : ((begX N).set (1 + j) o5)[m]? = some x) => (dcell hbm hcl m).trans (HC.out m x hx)
            clear hbm
            rcases (show m = 0 ∨ (m = j + 1) ∨ (m = N + 1) ∨ (m ≠ 0 ∧ m ≠ j + 1 ∧ m ≠ N + 1) by omega) with h | h | h | ⟨h1, h2, h3⟩
            · have c0 := cm 4 (ix_at0 N j m o5 h)
              clear cm
              subst h
              go_wp2_with fail
              go_roundw
              case rel => exact ⟨_ + 1, rfl, by omega, HBM.out⟩
              case measure => simp [intOf]; try omega
            · have c0 := cm o5 (ix_atj N j m o5 h hj)
              have b0 : ((m : Int) == 0) = false := by simp; omega
              have b1 : ((m : Int) == (N : Int) + 1) = false := by simp; omega
              have b2 : ((m : Int) == (j : Int) + 1) = true := by simp; omega
              clear cm h
              go_wp2_with fail
              go_roundw
              case rel => exact ⟨_ + 1, rfl, by omega, HBM.out⟩
              case measure => simp [intOf]; try omega
            · have c0 := cm 6 (ix_atN N j m o5 h hj)
              have b0 : ((m : Int) == 0) = false := by simp; omega
              have b1 : ((m : Int) == (N : Int) + 1) = true := by simp; omega
              clear cm h
              go_wp2_with fail
              go_roundw
              case rel => exact ⟨_ + 1, rfl, by omega, HBM.out⟩
              case measure => simp [intOf]; try omega
            · have c0 := cm 0 (ix_at N j m o5 h1 h2 h3 hml)
              have b0 : ((m : Int) == 0) = false := by simp; omega
              have b1 : ((m : Int) == (N : Int) + 1) = false := by simp; omega
              have b2 : ((m : Int) == (j : Int) + 1) = false := by simp; omega
              clear cm
              go_wp2_with fail
              go_roundw
              case rel => exact ⟨_ + 1, rfl, by omega, HBM.out⟩
              case measure => simp [intOf]; try omega
          · have hme : m = N + 2 := by omega
            subst hme
            have q5 := (dcell hbm hgb 0).trans HO5.out
            clear hbm
            go_wp2_with fail
            go_ret
            exact ⟨rfl, HBX.out.trans (HBM.out.mono (by have := HBX.out.size; omega))⟩

theorem vmIndex_walk (a0 a1 a2 : Int) (w : World) (w0 : I64 a0) (w1 : I64 a1) (w2 : I64 a2) :
    Calls Tryd.prog 5 #[.int .i64 a0, .int .i64 a1, .int .i64 a2] w fun e w' => e = .returned (.bool true) ∧ Below w.heap.size w w' := by
  obtain ⟨k, hk⟩ := Int.eq_ofNat_of_zero_le (Int.emod_nonneg a2 (show (8 : Int) ≠ 0 by decide))
  have hk8 : k < 8 := by have := Int.emod_lt_of_pos a2 (show (0 : Int) < 8 by decide); omega
  have hN : Eight (k + 1) := by unfold Eight; omega
  have hc : a2 % 8 = ((k + 1 : Nat) : Int) - 1 := by omega
  rcases (show wrapK 5 a1 % 2 = 0 ∨ wrapK 5 a1 % 2 = 1 by omega) with h | h
  · exact vmIndex_of a0 a1 a2 _ _ _ (k + 1) hN hc rfl rfl (.inl ⟨h, rfl⟩) w
  · exact vmIndex_of a0 a1 a2 _ _ _ (k + 1) hN hc rfl rfl (.inr ⟨h, rfl⟩) w
end Go.Proofs.YtngobbbinacomaaDoor
