/- Chapter 14: VmCalls, walked. -/
import Derived.Test.YtngobbbinacomaaDoorSU14
import Derived.Test.YtngobbbinacomaaDoorSC14
import Derived.Test.YtngobbbinacomaaDoorRP14
import Derived.Deep.DeepCutAuto
import Derived.Deep.RegionHeld3
import Derived.BigRegion
import Derived.Deep.QuietTactic
import Derived.BigQuiet
namespace Go.Proofs.YtngobbbinacomaaDoor
open Go.RowKit Go.Proofs.YtngobbbinacomaaDoor.c11 Go.Proofs.YtngobbbinacomaaDoor.c10 Go.Proofs.YtngobbbinacomaaDoor.c13
set_option linter.unusedVariables false
set_option linter.unusedSimpArgs false
attribute [local go_sem ↓] Go.wp_at_zero Go.wp_at_succ

theorem step_append_ownC {P : Program} {ops : Array Oper} {o : Oper} {a : Act} {w : World} {K : Act → World → Prop} {Q : Exit → Act → World → Prop} {E : Prop}
    (hg : o.guard = none) (s x : Operand) (t : TypeId) (ho : o.op = .call { callee := .builtin .append, args := #[s, x], argTypes := #[t, t] })
    (base : Nat) (e : TypeId) (i : TypeInfo) (z : Value) (size bytes : Nat) (ht : P.underlying t = some (.slice e)) (hi : P.info? e = some i) (hz : i.zero = some z)
    (hsize : i.size = size) (hby : i.bytes = bytes) (hzs : z.cells.size = size) (hsz : 0 < size)
    (v : Value) (n : Nat) (xs : List Value) (hs : a.eval s = v) (hown : w.ownsRow base e size v n xs)
    (ad : Addr) (m c : Nat) (news : List Value) (hx : a.eval x = .slice (some ad) m c) (hl : news.length = m * size) (hnews : ∀ j u, news[j]? = some u → w.cell? (ad.add j) = some u) (h1 : ∀ u ∈ news, u.oneCell' = true)
    (h63 : n + m ≤ maxLen) (hbytes : (n + m) * bytes ≤ 140737488355328) (hbase : base ≤ w.heap.size)
    (h : ∀ v' w', w'.ownsRow base e size v' (n + m) (xs ++ news) → w.grownBy w' v.ownBlock → (v' = .slice none 0 0 ↔ v = .slice none 0 0 ∧ m = 0) → K (a.put o.dst v') w') :
    if Region.wanted o (yielded ops a.tmps) = true then Oper.wp P o a w K Q else E := by
  have hw : Region.wanted o (yielded ops a.tmps) = true := by simp [Region.wanted, hg]
  rw [if_pos hw]
  exact wp_append_own w s x t ho base e i z size bytes ht hi hz hsize hby hzs hsz v n xs hs hown ad m c news hx hl hnews h1 h63 hbytes hbase h

theorem bytesInfoC : (Tryd.prog.info? 44).map (fun i => (i.zero, i.size, i.bytes)) = some (some (.slice none 0 0), 1, 24) := by kernel_rfl
theorem bytessTyC : Tryd.prog.underlying 27 = some (.slice 44) := by kernel_rfl
/-- The functions that are made so far. -/
def ClRel (wv : World) (M d : Nat) (k : Value) (wr : World) : Prop := ∃ (j : Nat) (vs : List Value) (fv : Value), k = .int .i64 j ∧ j ≤ d ∧ vs.length = j ∧ wr.cell? ⟨M, 2, none⟩ = some fv ∧ wr.frozen? ⟨M, 2, none⟩ = false ∧
  wr.cell? ⟨M, 0, none⟩ = wv.cell? ⟨M, 0, none⟩ ∧ wr.cell? ⟨M, 1, none⟩ = wv.cell? ⟨M, 1, none⟩ ∧ wr.ownsRow (M + 1) 44 1 fv j vs ∧
  (∀ (i : Nat) (v : Value) (b : List Int), vs[i]? = some v → (clF d)[i]? = some b → wr.ownsRow (M + 1) 5 1 v b.length (u8s b)) ∧ Below M wv wr ∧ M < wr.heap.size

theorem cl_other {w : World} {base base' : Nat} {e e' : TypeId} {size size' n n' : Nat} {v v' : Value} {xs xs' : List Value} (h : w.ownsRow base e size v n xs) (h' : w.ownsRow base' e' size' v' n' xs') (hT : e ≠ e') : v.ownBlock = none ∨ v.ownBlock ≠ v'.ownBlock := by
  rcases h.2 with ⟨rfl, _⟩ | ⟨g, cap, cur, rfl, _, hh, _⟩
  · exact .inl rfl
  · exact .inr fun e => owns_other h' hh hT (by rw [← e]; rfl)
theorem cl_bel {w w' : World} {base : Nat} {e : TypeId} {size n : Nat} {v : Value} {xs : List Value} (h : w.ownsRow base e size v n xs) (hb : Below w.heap.size w w') : w'.ownsRow base e size v n xs :=
  ⟨h.1, h.2.elim .inl fun ⟨g, cap, cur, h1, h2, h3, h4⟩ => .inr ⟨g, cap, cur, h1, h2, (hb.block g (by
    rcases Nat.lt_or_ge g w.heap.size with h | h
    · exact h
    · rw [Array.getElem?_eq_none h] at h3; cases h3)).trans h3, h4⟩⟩
/-- What an append to the functions' row leaves. -/
theorem cl_grow {wr u2 W2 u3 : World} {M j n : Nat} {fv code : Value} {vs xs : List Value} (hg : W2.grownBy u3 fv.ownBlock) (hb2 : Below u2.heap.size u2 W2) (hB3 : Below wr.heap.size wr u2) (hlt : M < wr.heap.size) (hfv : wr.ownsRow (M + 1) 44 1 fv j vs) (hcode : u2.ownsRow wr.heap.size 5 1 code n xs) :
    u3.heap[M]? = wr.heap[M]? ∧ (∀ base v m ys, wr.ownsRow base 5 1 v m ys → u3.ownsRow base 5 1 v m ys) ∧ u3.ownsRow wr.heap.size 5 1 code n xs ∧ Below M wr u3 := by
  have h2 : Below wr.heap.size wr W2 := hB3.trans (hb2.mono hB3.size)
  have hf2 := cl_bel hfv h2
  refine ⟨(hg.block M (by have := h2.size; omega) (fun e => by have := (hf2.lt _ e.symm).1; omega)).trans (h2.block M hlt), fun base v m ys h => ?_, ?_, ?_⟩
  · have h' := cl_bel h h2
    exact h'.kept hg (cl_other h' hf2 (by decide))
  · have h' := cl_bel hcode hb2
    exact h'.kept hg (cl_other h' hf2 (by decide))
  · exact grown_below (h2.mono (Nat.le_of_lt hlt)) hf2 hg (by omega) (by have := h2.size; omega)
theorem cl_next {wv wr u3 : World} {M d j n : Nat} {fv code : Value} {vs : List Value} {b : List Int} {vB : Option Addr} {vd : Nat} (hj : j < d) (hvs : vs.length = j) (hn : n = b.length) (hcf : (clF d)[j]? = some b) (f2 : wr.cell? ⟨M, 2, none⟩ = some fv) (f3 : wr.frozen? ⟨M, 2, none⟩ = false) (f0 : wr.cell? ⟨M, 0, none⟩ = wv.cell? ⟨M, 0, none⟩) (f1 : wr.cell? ⟨M, 1, none⟩ = wv.cell? ⟨M, 1, none⟩)
    (heach : ∀ (i : Nat) (v : Value) (b : List Int), vs[i]? = some v → (clF d)[i]? = some b → wr.ownsRow (M + 1) 5 1 v b.length (u8s b)) (hbv : Below M wv wr) (hlt : M < wr.heap.size)
    (h : u3.heap[M]? = wr.heap[M]? ∧ (∀ base v m ys, wr.ownsRow base 5 1 v m ys → u3.ownsRow base 5 1 v m ys) ∧ u3.ownsRow wr.heap.size 5 1 code n (u8s b) ∧ Below M wr u3) (ho : u3.ownsRow (M + 1) 44 1 (.slice vB (j + 1) vd) (j + 1) (vs ++ [code])) :
    ClRel wv M d (.int .i64 ((j : Int) + 1)) (u3.setCell ⟨M, 2, none⟩ (.slice vB (j + 1) vd)) := by
  obtain ⟨h1, h2, h3, h4⟩ := h
  have c2 := (World.cell?_of_block (a := ⟨M, 2, none⟩) h1).trans f2
  have z2 := (World.frozen?_of_block (a := ⟨M, 2, none⟩) h1).trans f3
  have ne : ∀ v : Value, (∀ k, v.ownBlock = some k → M + 1 ≤ k) → v.ownBlock ≠ some M := fun v hv e => by have := hv _ e; omega
  refine ⟨j + 1, vs ++ [code], .slice vB (j + 1) vd, by simp, hj, by simp [hvs], cell_set_same c2, froz_set.trans z2, (cell_set_ne (.inr (by decide))).trans (((World.cell?_of_block (a := ⟨M, 0, none⟩) h1)).trans f0), (cell_set_ne (.inr (by decide))).trans (((World.cell?_of_block (a := ⟨M, 1, none⟩) h1)).trans f1), own_setFar ho (ne _ fun k hk => (ho.lt k hk).1) _, fun i v bb hv hb => ?_, ?_, ?_⟩
  · rcases Nat.lt_or_ge i vs.length with hi | hi
    · rw [List.getElem?_append_left hi] at hv
      have ho' := h2 _ _ _ _ (heach i v bb hv hb)
      exact own_setFar ho' (ne _ fun k hk => (ho'.lt k hk).1) _
    · have hie : i = vs.length := by
        have := (List.getElem?_eq_some_iff.1 hv).1
        simp at this
        omega
      subst hie
      rw [List.getElem?_append_right (Nat.le_refl _)] at hv
      simp at hv
      subst hv
      rw [hvs, hcf] at hb
      obtain rfl := Option.some.inj hb
      have ho' := own_base h3 (show M + 1 ≤ wr.heap.size from hlt)
      rw [hn] at ho'
      exact own_setFar ho' (ne _ fun k hk => (ho'.lt k hk).1) _
  · exact (hbv.trans h4).setCell (Nat.le_refl _) _
  · have := h4.size
    simp
    omega

theorem clF_at {d j : Nat} (hd : d = 1 ∨ d = 2 ∨ d = 3 ∨ d = 4) (h : j + 1 < d) : (clF d)[j]? = some (clC ((j : Int) + 1)) := by
  rcases hd with rfl | rfl | rfl | rfl
  · omega
  · rcases (show j = 0 by omega) with rfl; rfl
  · rcases (show j = 0 ∨ j = 1 by omega) with rfl | rfl <;> rfl
  · rcases (show j = 0 ∨ j = 1 ∨ j = 2 by omega) with rfl | rfl | rfl <;> rfl
theorem clF_end {d j : Nat} (hd : d = 1 ∨ d = 2 ∨ d = 3 ∨ d = 4) (h : j + 1 = d) : (clF d)[j]? = some clL := by
  rcases hd with rfl | rfl | rfl | rfl
  · rcases (show j = 0 by omega) with rfl; rfl
  · rcases (show j = 1 by omega) with rfl; rfl
  · rcases (show j = 2 by omega) with rfl; rfl
  · rcases (show j = 3 by omega) with rfl; rfl

theorem rowx_lit (w : World) (x : Int) : Row (w.alloc (.cells #[.int .i64 x] 3)) (w.alloc (.cells #[.int .i64 x] 3)).heap.size 1 (some ⟨w.heap.size, 0, none⟩) 1 (([x] : List Int).map (Value.int .i64)) := by
  refine ⟨rfl, fun _ => ⟨_, 0, rfl, by simp, fun j u hu => ?_⟩⟩
  have hj0 : j = 0 := by have := (List.getElem?_eq_some_iff.1 hu).1; simp at this; omega
  subst hj0
  simp at hu
  subst hu
  go_simp
theorem keepM {u1 W' : World} {B m : Nat} {a0 a1 a2 : Value} (hb : Below B u1 W') (h : m < B) (k0 : u1.cell? ⟨m, 0, none⟩ = some a0) (k1 : u1.cell? ⟨m, 1, none⟩ = some a1) (k2 : u1.cell? ⟨m, 2, none⟩ = some a2) :
    W'.cell? ⟨m, 0, none⟩ = some a0 ∧ W'.cell? ⟨m, 1, none⟩ = some a1 ∧ W'.cell? ⟨m, 2, none⟩ = some a2 := ⟨(dcell hb h 0).trans k0, (dcell hb h 1).trans k1, (dcell hb h 2).trans k2⟩
set_option maxHeartbeats 8000000 in
set_option maxRecDepth 100000 in
theorem vmCalls_of (a b x : Int) (d : Nat) (hd : d = 1 ∨ d = 2 ∨ d = 3 ∨ d = 4) (ha : a % 4 = (d : Int) - 1) (hb : wrapK 5 b = x) (w : World) :
    Calls Tryd.prog 7 #[.int .i64 a, .int .i64 b] w fun e w' => e = .returned (.bool true) ∧ Below w.heap.size w w' := by
  have h4 : 1 ≤ d ∧ d ≤ 4 := by omega
  have KN := Lib.hid (fun W => known14_any W)
  have WA := fun W => within14_any a 4 (by decide) (by decide) W
  rw [ha] at WA
  have HWA := Lib.hid WA
  have WB := fun W => rwrap_any 5 b W
  rw [hb] at WB
  have HWB := Lib.hid WB
  obtain ⟨y0, hi, hz0, hz1, hz2⟩ := info_parts byteInfo
  have t22 := byteRow
  obtain ⟨s0, si, sz0, sz1, sz2⟩ := info_parts bytesInfoC
  have t27 := bytessTyC
  have e1 : IntKind.i64.wrap (1 + ((d : Int) - 1)) = d := by rw [show 1 + ((d : Int) - 1) = d by omega]; exact IntWalk.i64_in _ (by omega)
  have e2 : wrap64 (1 + ((d : Int) - 1)) = d := by rw [show 1 + ((d : Int) - 1) = d by omega]; exact IntWalk.wrap64_in _ (by omega)
  have hx5 : wrapK 5 x = x := by rw [← hb]; exact wrapK5 b
  clear WA WB ha hb
  go_enter Tryd.func7, Tryd.ntmps7
  go_wp2_with (first | (go_at_call 17; refine (KN.out _).mono ?_; rintro e w1 ⟨rfl, hb1⟩; have HB1 := Lib.hid hb1; clear hb1) | (go_at_call 21; refine (HWA.out _).mono ?_; rintro e wx ⟨rfl, rfl⟩) | (go_at_call 26; first | (with_reducible refine (HWB.out _).mono ?_; rintro e wx ⟨rfl, rfl⟩)))
  obtain ⟨wv, hwv⟩ : ∃ x : World, x = ((((w1.alloc (.cells #[.int .i64 0] 3)).alloc (.cells #[.string { data := #[120] }, .int .i64 5, .int .i64 0, .int .i64 0, .slice none 0 0, .bool false, .slice (some ⟨w1.heap.size, 0, none⟩) 1 1] 52)).alloc (.cells #[.int .i64 1] 3)).alloc (.cells #[.slice (some ⟨w1.heap.size + 1, 0, none⟩) 1 1, .slice (some ⟨w1.heap.size + 1 + 1, 0, none⟩) 1 1, .slice none 0 0] 29)) := ⟨_, rfl⟩
  have hzv : wv.heap.size = w1.heap.size + 4 := by rw [hwv]; simp
  have m0 : wv.cell? ⟨w1.heap.size + 1 + 1 + 1, 0, none⟩ = some (.slice (some ⟨w1.heap.size + 1, 0, none⟩) 1 1) := by rw [hwv]; go_simp
  have m1 : wv.cell? ⟨w1.heap.size + 1 + 1 + 1, 1, none⟩ = some (.slice (some ⟨w1.heap.size + 1 + 1, 0, none⟩) 1 1) := by rw [hwv]; go_simp
  have m2 : wv.cell? ⟨w1.heap.size + 1 + 1 + 1, 2, none⟩ = some (.slice none 0 0) := by rw [hwv]; go_simp
  have m3 : wv.frozen? ⟨w1.heap.size + 1 + 1 + 1, 2, none⟩ = false := by rw [hwv]; go_simp
  have HSY := Lib.hid (show Syms wv (w1.heap.size + 1 + 1 + 1) (some ⟨w1.heap.size + 1, 0, none⟩) 1 [sClx] from by
    rw [hwv]
    refine ⟨rfl, fun _ => ⟨_, 0, rfl, by omega, fun i s hi => ?_⟩, fun s hs => by simp at hs; subst hs; exact ⟨by decide, by decide, (fun f hf => by cases hf), by decide⟩⟩
    have hi0 : i = 0 := by have := (List.getElem?_eq_some_iff.1 hi).1; simp at this; omega
    subst hi0
    simp at hi
    subst hi
    exact symAt_lit (q := w1.heap.size) (t' := 3) ((Below.heap_alloc _ _ _ (by simp)).trans ((Below.heap_alloc _ _ _ (by simp)).trans (heap_topE _ _ _ (by simp)))) ((Below.heap_alloc _ _ _ (by simp; try omega)).trans ((Below.heap_alloc _ _ _ (by simp; try omega)).trans ((Below.heap_alloc _ _ _ (by simp; try omega)).trans (heap_topE _ _ _ (by simp))))) (by omega) rfl (by decide) rfl)
  have HKO := Lib.hid (show Row wv (w1.heap.size + 1 + 1 + 1) 1 (some ⟨w1.heap.size + 1 + 1, 0, none⟩) 1 (([1] : List Int).map (Value.int .i64)) from by
    rw [hwv]
    refine ⟨rfl, fun _ => ⟨_, 0, rfl, by omega, fun j u hu => ?_⟩⟩
    have hj0 : j = 0 := by have := (List.getElem?_eq_some_iff.1 hu).1; simp at this; omega
    subst hj0
    simp at hu
    subst hu
    go_simp)
  have HR0 := Lib.hid (show ClRel wv (w1.heap.size + 1 + 1 + 1) d (.int .i64 0) wv from ⟨0, [], .slice none 0 0, rfl, Nat.zero_le _, rfl, m2, m3, rfl, rfl, World.ownsRow_nil _ _ _ _, fun i v b h => by simp at h, Below.refl _ _, by omega⟩)
  have HBV := Lib.hid (show Below w.heap.size w wv from below3 HB1.out HB1.out.size (by rw [hwv]; repeat (first | exact Below.refl _ _ | refine Below.alloc ?_ (by first | omega | (simp; done) | (simp; omega)) _)))
  rw [← hwv]
  go_loopw [6] (fun k wr => ClRel wv (w1.heap.size + 1 + 1 + 1) d k wr) (fun k _ => d - (intOf k).toNat)
  case atStart => exact HR0.out
  case round =>
    obtain ⟨j, vs, fv, rfl, hj, hvs, f2, f3, f0, f1, hrow, heach, hbv, hlt⟩ := hrel
    by_cases hjd : j < d
    · have hjd' : (j : Int) < d := by omega
      have HROW := Lib.hid hrow
      have HEACH := Lib.hid heach
      have HBJ := Lib.hid hbv
      clear hrow heach hbv
      go_upto_region 9 with fail
      obtain ⟨u0, hu0⟩ : ∃ x : World, x = wr.alloc (.cells #[.int .u8 24, .int .u8 3, .int .u8 3, .int .u8 0, .int .u8 2, .int .u8 0, .int .u8 7, .int .u8 4, .int .u8 0] 5) := ⟨_, rfl⟩
      obtain ⟨v0, hv0⟩ : ∃ x : Value, x = .slice (some ⟨wr.heap.size, 0, none⟩) 9 9 := ⟨_, rfl⟩
      have HO0 := Lib.hid (show u0.ownsRow wr.heap.size 5 1 v0 9 (u8s [24, 3, 3, 0, 2, 0, 7, 4, 0]) from by rw [hu0, hv0]; exact lit_own wr [24, 3, 3, 0, 2, 0, 7, 4, 0] wr.heap.size (Nat.le_refl _) (by decide))
      have HBZ := Lib.hid (show Below wr.heap.size wr u0 from by rw [hu0]; exact (Below.refl _ wr).alloc (Nat.le_refl _) _)
      rw [← hu0, ← hv0]
      clear hu0 hv0
      have ew : IntKind.u8.wrap ((j : Int) + 1) = (j : Int) + 1 := IntWalk.u8_in _ (by omega)
      by_cases hjc : j + 1 < d
      · have hjc' : (j : Int) < (d : Int) - 1 := by omega
        go_upto_region 11 with (at_builtin; refine wpList_append_own _ rfl _ _ 44 rfl wr.heap.size 5 y0 _ 1 1 t22 hi hz0 hz1 hz2 rfl (by decide) _ 9 (u8s [24, 3, 3, 0, 2, 0, 7, 4, 0]) rfl (HO0.out.alloc _) ⟨_, 0, none⟩ 2 2 (u8s [20, (j : Int) + 1]) rfl rfl (lit_cells _ [20, (j : Int) + 1] _) (u8s_one _) (by unfold maxLen; omega) (by omega) (by have hq := HBZ.out.size; simp; omega) ?_; intro v1 u1 hown hgrow hnil; have HO1 := Lib.hid (show u1.ownsRow wr.heap.size 5 1 v1 11 (u8s [24, 3, 3, 0, 2, 0, 7, 4, 0, 20, (j : Int) + 1]) from hown); have HB2 := Lib.hid (grown_below (B := wr.heap.size) (HBZ.out.alloc (by have hq := HBZ.out.size; omega) _) (HO0.out.alloc _) hgrow (Nat.le_refl _) (by have hq := HBZ.out.size; simp; omega)); clear hown hgrow hnil)
        have HJD := Lib.hid (clF_at hd hjc)
        have HROW1 := Lib.hid (show u1.ownsRow (w1.heap.size + 1 + 1 + 1 + 1) 44 1 fv j vs from row_keep HROW.out HB2.out)
        have hz9 := HB2.out.size
        have g2 := (dcell HB2.out hlt 2).trans f2
        have g3 := (dfroz HB2.out hlt 2).trans f3
        have hM1 : w1.heap.size + 1 + 1 + 1 < u1.heap.size := by omega
        have hM2 : ¬ w1.heap.size + 1 + 1 + 1 = u1.heap.size := by omega
        have hM3 : ¬ u1.heap.size = w1.heap.size + 1 + 1 + 1 := by omega
        go_region_law (first
          | (refine step_append_ownC rfl _ _ 44 rfl wr.heap.size 5 y0 _ 1 1 t22 hi hz0 hz1 hz2 rfl (by decide) v1 11 (u8s [24, 3, 3, 0, 2, 0, 7, 4, 0, 20, (j : Int) + 1]) rfl (by repeat (first | (with_reducible exact HO1.out) | (with_reducible refine World.ownsRow.alloc ?_ _) | (with_reducible refine own_dr ?_))) ⟨_, 0, none⟩ 3 3 (u8s [25, 3, 0]) rfl rfl (lit_cells _ [25, 3, 0] _) (u8s_one _) (by unfold maxLen; omega) (by omega) (by first | omega | (simp; done) | (simp; omega)) ?_; intro v2 u2 hown hgrow hnil; have HO2 := Lib.hid (show u2.ownsRow wr.heap.size 5 1 v2 14 (u8s (clC ((j : Int) + 1))) from hown); obtain ⟨vA, vc, rfl, hv1, hv2⟩ := own_slice HO2.out; have z2 := hgrow.size; (try simp at z2); have HB3 := Lib.hid (grown_below (B := wr.heap.size) (a := wr) (v := v1) (by first | exact HB2.out.drew.alloc (by first | omega | (simp; done) | (simp; omega)) _ | exact HB2.out.alloc (by first | omega | (simp; done) | (simp; omega)) _) (by first | exact HO1.out.alloc _) hgrow (Nat.le_refl _) (by first | omega | (simp; done) | (simp; omega))); have HR2 := Lib.hid (show u2.ownsRow (w1.heap.size + 1 + 1 + 1 + 1) 44 1 fv j vs from row_keep HROW.out HB3.out); have k2 := (dcell HB3.out hlt 2).trans f2; have k3 := (dfroz HB3.out hlt 2).trans f3; have hz10 := HB3.out.size; have hM4 : w1.heap.size + 1 + 1 + 1 < u2.heap.size := (by omega); have hM5 : ¬ w1.heap.size + 1 + 1 + 1 = u2.heap.size := (by omega); have hM6 : ¬ u2.heap.size = w1.heap.size + 1 + 1 + 1 := (by omega); clear hown hgrow hnil)
          | (refine step_append_ownC rfl _ _ 27 rfl (w1.heap.size + 1 + 1 + 1 + 1) 44 s0 _ 1 24 t27 si sz0 sz1 sz2 rfl (by decide) fv j vs rfl (by repeat (first | (with_reducible exact HR2.out) | (with_reducible refine World.ownsRow.alloc ?_ _) | (with_reducible refine own_dr ?_))) ⟨_, 0, none⟩ 1 1 [.slice vA 14 vc] rfl rfl (one_cell (by go_simp)) (fun u hu => by simp at hu; subst hu; rfl) (by unfold maxLen; omega) (by omega) (by have := HB3.out.size; first | omega | (simp; omega)) ?_; intro v3 u3 hown hgrow hnil; obtain ⟨vB, vd, rfl, hv3, hv4⟩ := own_slice hown; have HO3 := Lib.hid hown; have HG := Lib.hid (cl_grow hgrow (by repeat (first | (with_reducible exact Below.refl _ _) | (with_reducible refine Below.drew ?_) | (with_reducible refine Below.alloc ?_ (by first | omega | (simp; done) | (simp; omega)) _))) HB3.out hlt HROW.out HO2.out); have n2 := (World.cell?_of_block (a := ⟨w1.heap.size + 1 + 1 + 1, 2, none⟩) HG.out.1).trans f2; have n3 := (World.frozen?_of_block (a := ⟨w1.heap.size + 1 + 1 + 1, 2, none⟩) HG.out.1).trans f3; clear hown hgrow hnil))
        all_goals (have HN := Lib.hid (cl_next hjd hvs rfl (HJD.out) f2 f3 f0 f1 HEACH.out HBJ.out hlt HG.out HO3.out); clear HG HO3 HB3 HR2 HO2 k2 k3 n2 n3 g2 g3 f0 f1 f2 f3 HEACH HROW HBJ HO0 HBZ HO1 HB2 KN HWA HWB; go_wp2_with fail; go_roundw; (case rel => exact HN.out); (case measure => (simp [intOf]; omega)))
      · have hjc' : ¬ (j : Int) < (d : Int) - 1 := by omega
        have HJD := Lib.hid (clF_end hd (show j + 1 = d by omega))
        go_upto_region 11 with fail
        have hz9 := HBZ.out.size
        have g2 := (dcell HBZ.out hlt 2).trans f2
        have g3 := (dfroz HBZ.out hlt 2).trans f3
        have hM1 : w1.heap.size + 1 + 1 + 1 < u0.heap.size := by omega
        have hM2 : ¬ w1.heap.size + 1 + 1 + 1 = u0.heap.size := by omega
        have hM3 : ¬ u0.heap.size = w1.heap.size + 1 + 1 + 1 := by omega
        go_region_law (first
          | (refine step_append_ownC rfl _ _ 44 rfl wr.heap.size 5 y0 _ 1 1 t22 hi hz0 hz1 hz2 rfl (by decide) v0 9 (u8s [24, 3, 3, 0, 2, 0, 7, 4, 0]) rfl (by repeat (first | (with_reducible exact HO0.out) | (with_reducible refine World.ownsRow.alloc ?_ _) | (with_reducible refine own_dr ?_))) ⟨_, 0, none⟩ 3 3 (u8s [25, 3, 0]) rfl rfl (lit_cells _ [25, 3, 0] _) (u8s_one _) (by unfold maxLen; omega) (by omega) (by first | omega | (simp; done) | (simp; omega)) ?_; intro v2 u2 hown hgrow hnil; have HO2 := Lib.hid (show u2.ownsRow wr.heap.size 5 1 v2 12 (u8s clL) from hown); obtain ⟨vA, vc, rfl, hv1, hv2⟩ := own_slice HO2.out; have z2 := hgrow.size; (try simp at z2); have HB3 := Lib.hid (grown_below (B := wr.heap.size) (a := wr) (v := v0) (by first | exact HBZ.out.drew.alloc (by first | omega | (simp; done) | (simp; omega)) _ | exact HBZ.out.alloc (by first | omega | (simp; done) | (simp; omega)) _) (by first | exact HO0.out.alloc _) hgrow (Nat.le_refl _) (by first | omega | (simp; done) | (simp; omega))); have HR2 := Lib.hid (show u2.ownsRow (w1.heap.size + 1 + 1 + 1 + 1) 44 1 fv j vs from row_keep HROW.out HB3.out); have k2 := (dcell HB3.out hlt 2).trans f2; have k3 := (dfroz HB3.out hlt 2).trans f3; have hz10 := HB3.out.size; have hM4 : w1.heap.size + 1 + 1 + 1 < u2.heap.size := (by omega); have hM5 : ¬ w1.heap.size + 1 + 1 + 1 = u2.heap.size := (by omega); have hM6 : ¬ u2.heap.size = w1.heap.size + 1 + 1 + 1 := (by omega); clear hown hgrow hnil)
          | (refine step_append_ownC rfl _ _ 27 rfl (w1.heap.size + 1 + 1 + 1 + 1) 44 s0 _ 1 24 t27 si sz0 sz1 sz2 rfl (by decide) fv j vs rfl (by repeat (first | (with_reducible exact HR2.out) | (with_reducible refine World.ownsRow.alloc ?_ _) | (with_reducible refine own_dr ?_))) ⟨_, 0, none⟩ 1 1 [.slice vA 12 vc] rfl rfl (one_cell (by go_simp)) (fun u hu => by simp at hu; subst hu; rfl) (by unfold maxLen; omega) (by omega) (by have := HB3.out.size; first | omega | (simp; omega)) ?_; intro v3 u3 hown hgrow hnil; obtain ⟨vB, vd, rfl, hv3, hv4⟩ := own_slice hown; have HO3 := Lib.hid hown; have HG := Lib.hid (cl_grow hgrow (by repeat (first | (with_reducible exact Below.refl _ _) | (with_reducible refine Below.drew ?_) | (with_reducible refine Below.alloc ?_ (by first | omega | (simp; done) | (simp; omega)) _))) HB3.out hlt HROW.out HO2.out); have n2 := (World.cell?_of_block (a := ⟨w1.heap.size + 1 + 1 + 1, 2, none⟩) HG.out.1).trans f2; have n3 := (World.frozen?_of_block (a := ⟨w1.heap.size + 1 + 1 + 1, 2, none⟩) HG.out.1).trans f3; clear hown hgrow hnil))
        all_goals (have HN := Lib.hid (cl_next hjd hvs rfl (HJD.out) f2 f3 f0 f1 HEACH.out HBJ.out hlt HG.out HO3.out); clear HG HO3 HB3 HR2 HO2 k2 k3 n2 n3 g2 g3 f0 f1 f2 f3 HEACH HROW HBJ HO0 HBZ KN HWA HWB; go_wp2_with fail; go_roundw; (case rel => exact HN.out); (case measure => (simp [intOf]; omega)))
    · have hje : j = d := by omega
      have hnl : ¬ (j : Int) < d := by omega
      have hdl := clF_len d hd
      rw [hje] at hvs hrow
      obtain ⟨f, fc, rfl, hf1, hf2⟩ := hrow.form (by omega)
      obtain ⟨_, fc', hx0, hx1, hx2⟩ := own_slice hrow
      obtain rfl : fc = fc' := by injection hx0
      unfold maxLen at hx2
      have hfa : FuncsAt wr f (clF d) vs := ⟨by omega, fun i v hv => by have h := hrow.cells rfl i v hv; rw [Addr.add_lit] at h; simpa using h, fun i v b hv hb => by
        have hb0 : 0 < b.length := by
          rcases hd with rfl | rfl | rfl | rfl
          all_goals (have hm := List.mem_of_getElem? hb; simp [clF] at hm)
          · subst hm; decide
          · rcases hm with rfl | rfl <;> decide
          · rcases hm with rfl | rfl | rfl <;> decide
          · rcases hm with rfl | rfl | rfl | rfl <;> decide
        exact CodeLies.of_own (heach i v b hv hb) hb0, hf2⟩
      have HFA := Lib.hid hfa
      have g0 := f0.trans m0
      have g1 := f1.trans m1
      have CK := Lib.hid (fun u (hu : Below wr.heap.size wr u) => cl_check (SA := some ⟨w1.heap.size + 1, 0, none⟩) (SC := 1) (Ca := some ⟨w1.heap.size + 1 + 1, 0, none⟩) (Cc := 1) (f := f) (Fc := fc) hd (((HSY.out.below hbv).moreS (Nat.le_of_lt hlt)).below hu |>.moreS hu.size) (by omega) (((HKO.out.below hbv).more (Nat.le_of_lt hlt)).below hu |>.more hu.size) (by omega) (HFA.out.below hu) (by omega))
      have RN := Lib.hid (fun u (hu : Below wr.heap.size wr u) CA CC (hz : Row u u.heap.size 1 CA 1 (([x] : List Int).map (Value.int .i64))) (hzc : 1 ≤ CC) => cl_vmrun (SA := some ⟨w1.heap.size + 1, 0, none⟩) (SC := 1) (Ca := some ⟨w1.heap.size + 1 + 1, 0, none⟩) (Cc := 1) (f := f) (Fc := fc) hd (((HSY.out.below hbv).moreS (Nat.le_of_lt hlt)).below hu |>.moreS hu.size) (by omega) (((HKO.out.below hbv).more (Nat.le_of_lt hlt)).below hu |>.more hu.size) (by omega) (HFA.out.below hu) (by omega) x hx5 CA CC hz hzc)
      have HBE := Lib.hid (HBV.out.trans (hbv.mono (by have := HB1.out.size; omega)))
      have HB7 := Lib.hid (Below.refl wr.heap.size wr)
      clear hfa heach hrow hbv hx0 f0 f1 m0 m1 m2 m3
      go_wp2_with fail
      refine (CK.out _ HB7.out).mono ?_
      rintro e w5 ⟨rfl, hb5⟩
      have HB5 := Lib.hid hb5
      have h0 := (dcell hb5 hlt 0).trans g0
      have h1 := (dcell hb5 hlt 1).trans g1
      have h2 := (dcell hb5 hlt 2).trans f2
      have hz5 := hb5.size
      have hlm : w1.heap.size + 1 + 1 + 1 < w5.heap.size := by omega
      clear hb5 g0 g1 f2 f3
      go_wp2_with fail
      refine (RN.out _ (HB5.out.trans (((Below.refl _ w5).alloc (Nat.le_refl _) _).mono hz5)) _ _ (rowx_lit w5 x) (by omega)).mono ?_
      rintro e w6 ⟨hb6, v6, rfl, ho6⟩
      have z6 := hb6.size
      simp at z6
      have HBX := Lib.hid (show Below w.heap.size w w6 from HBE.out.trans ((HB5.out.trans ((((Below.refl _ w5).alloc (Nat.le_refl _) _).trans (hb6.mono (by simp))).mono hz5)).mono (by have := HBE.out.size; omega)))
      obtain ⟨cg, cc, rfl, _, hcg⟩ := ho6.form (by decide)
      obtain ⟨_, cc', hx0, hx1, hx2⟩ := own_slice ho6
      obtain rfl : cc = cc' := by injection hx0
      unfold maxLen at hx2
      have c0 := own_at ho6 0 _ rfl
      have WR := Lib.hid (fun (n : Int) (W : World) => show Calls Tryd.prog 26 #[.int .i64 5, .int .i64 n] W (fun e w' => e = .returned (.int .i64 (wrapK 5 n)) ∧ w' = W) from (rwrap_any 5 n W).mono fun e w' ⟨h1, h2⟩ => And.intro h1 h2.symm)
      have hxb : -2147483648 ≤ x ∧ x ≤ 2147483647 := by rw [← hx5]; simp only [wrapK]; simp; unfold wrap32; omega
      have hn1 : ((8 * d - 1 : Nat) : Int) = 7 * (d : Int) + d - 1 := by omega
      have hw6 : w.heap.size ≤ w6.heap.size := HBX.out.size
      rw [hn1]
      clear hb6 ho6 hx0 CK RN HFA HSY HKO hn1 HB5 HBE HBV HB7
      go_wp2_with fail
      have hcg2 : ¬ cg = w6.heap.size := by omega
      go_quiet ((go_at_call 26; (with_reducible refine Calls.quiet_of_same (WR.out _ _))))
      all_goals (go_wp2_with fail; go_ret; exact ⟨rfl, by repeat (first | (with_reducible exact HBX.out) | (with_reducible refine Below.drew ?_) | (with_reducible refine below_dN _ ?_) | (with_reducible refine Below.alloc ?_ (by omega) _))⟩)

theorem vmCalls_walk (a0 a1 : Int) (w : World) (w0 : I64 a0) (w1 : I64 a1) :
    Calls Tryd.prog 7 #[.int .i64 a0, .int .i64 a1] w fun e w' => e = .returned (.bool true) ∧ Below w.heap.size w w' := by
  obtain ⟨k, hk⟩ := Int.eq_ofNat_of_zero_le (Int.emod_nonneg a0 (show (4 : Int) ≠ 0 by decide))
  have hk4 : k < 4 := by have := Int.emod_lt_of_pos a0 (show (0 : Int) < 4 by decide); omega
  exact vmCalls_of a0 a1 _ (k + 1) (by omega) (by omega) rfl w
end Go.Proofs.YtngobbbinacomaaDoor
