/- Chapter 14: a run whole. -/
import Derived.Test.YtngobbbinacomaaDoorK14
import Derived.Lib.SliceRun
namespace Go.Proofs.YtngobbbinacomaaDoor
open Go.RowKit Go.Proofs.YtngobbbinacomaaDoor.c11 Go.Proofs.YtngobbbinacomaaDoor.c10
set_option linter.unusedVariables false
set_option linter.unusedSimpArgs false
attribute [local go_sem ↓] Go.wp_at_zero Go.wp_at_succ

theorem own_mono {w : World} {b b' : Nat} {e : TypeId} {size n : Nat} {v : Value} {xs : List Value} (h : w.ownsRow b e size v n xs) (hb : b' ≤ b) : w.ownsRow b' e size v n xs := by
  refine ⟨h.1, ?_⟩
  rcases h.2 with h | ⟨g, cap, cur, h1, h2, h3⟩
  · exact .inl h
  · exact .inr ⟨g, cap, cur, h1, Nat.le_trans hb h2, h3⟩

set_option maxHeartbeats 4000000 in
theorem run_any (E : Env) (SA : Option Addr) (SC : Nat) (l : List SymD) (w : World) (hI : Img w E SA SC l) (hE : E.Ok) (hB : (∀ b ∈ E.funcs, ∀ x ∈ b, x ≠ 27) ∨ ∀ M K S a, 0 ≤ a → a ≤ 1000000 → BlockAt M K S a)
    (CA : Option Addr) (n CC : Nat) (zs : List Int) (hz : Row w w.heap.size 1 CA n (zs.map (Value.int .i64))) (hzn : n ≤ 1000000) (hzc : n ≤ CC) (o0 o1 o2 o3 budget : Int) (hbud : budget ≤ 1000000) :
    Calls Tryd.prog 22 #[.agg #[E.syms, .slice E.Ca E.consts.length E.Cc, .slice E.Fa E.funcs.length E.Fc], .slice CA n CC, .agg #[.int .i64 E.i0, .int .i64 E.i1, .int .i64 E.i2, .int .i64 E.i3], .agg #[.int .i64 o0, .int .i64 o1, .int .i64 o2, .int .i64 o3], .int .i64 E.now, .int .i64 budget] w
      (RunBack E ⟨zs, o0, o1, o2, o3, (max budget 0).toNat, 0, []⟩ w) := by
  have HI := Lib.hid hI
  have HZ := Lib.hid hz
  have HBK := Lib.hid hB
  have hsy := hI.syms
  obtain ⟨syms, consts, Ca, Cc, funcs, Fv, Fl, Fa, Fc, lay, La0, Lc0, i0, i1, i2, i3, now⟩ := E
  simp only at hsy
  subst hsy
  simp only
  have hnl : n = zs.length := by have := hz.1; simp at this; omega
  subst hnl
  clear hI hz hB
  go_enter Tryd.func22, Tryd.ntmps22
  go_upto_region 1 with fail
  obtain ⟨wb, hwb⟩ : ∃ x : World, x = ((((w.alloc (.cells #[.slice SA l.length SC, .slice Ca consts.length Cc, .slice Fa funcs.length Fc] 29)).alloc (.cells #[.int .i64 i0, .int .i64 i1, .int .i64 i2, .int .i64 i3] 23)).alloc
      (.cells #[.int .i64 o0, .int .i64 o1, .int .i64 o2, .int .i64 o3] 23)).alloc (.cells #[.int .i64 0, .int .i64 0, .int .i64 0, .int .i64 0] 23)) := ⟨_, rfl⟩
  have hsz : wb.heap.size = w.heap.size + 4 := by rw [hwb]; simp
  have hb0 : Below w.heap.size w wb := by rw [hwb]; exact (by repeat (first | (with_reducible exact Below.refl _ _) | (with_reducible refine Below.drew ?_) | (with_reducible refine below_dn _ ?_) | (with_reducible refine Below.alloc ?_ (by first | omega | (simp; done) | (simp; omega)) _)))
  have k0 : wb.cell? ⟨w.heap.size, 0, none⟩ = some (.slice SA l.length SC) := by rw [hwb]; go_simp
  have k1 : wb.cell? ⟨w.heap.size, 1, none⟩ = some (.slice Ca consts.length Cc) := by rw [hwb]; go_simp
  have k2 : wb.cell? ⟨w.heap.size, 2, none⟩ = some (.slice Fa funcs.length Fc) := by rw [hwb]; go_simp
  have l0 : wb.cell? ⟨w.heap.size + 1, 0, none⟩ = some (.int .i64 i0) := by rw [hwb]; go_simp
  have l1 : wb.cell? ⟨w.heap.size + 1, 1, none⟩ = some (.int .i64 i1) := by rw [hwb]; go_simp
  have l2 : wb.cell? ⟨w.heap.size + 1, 2, none⟩ = some (.int .i64 i2) := by rw [hwb]; go_simp
  have l3 : wb.cell? ⟨w.heap.size + 1, 3, none⟩ = some (.int .i64 i3) := by rw [hwb]; go_simp
  have m0 : wb.cell? ⟨w.heap.size + 1 + 1, 0, none⟩ = some (.int .i64 o0) := by rw [hwb]; go_simp
  have m1 : wb.cell? ⟨w.heap.size + 1 + 1, 1, none⟩ = some (.int .i64 o1) := by rw [hwb]; go_simp
  have m2 : wb.cell? ⟨w.heap.size + 1 + 1, 2, none⟩ = some (.int .i64 o2) := by rw [hwb]; go_simp
  have m3 : wb.cell? ⟨w.heap.size + 1 + 1, 3, none⟩ = some (.int .i64 o3) := by rw [hwb]; go_simp
  have hbt : wb.heap[w.heap.size + 1 + 1 + 1]? = some (.cells #[.int .i64 0, .int .i64 0, .int .i64 0, .int .i64 0] 23 (0, 0)) := by
    rw [hwb]
    exact alloc_blkAt _ _ _ _ (by simp)
  rw [← hwb]
  clear hwb
  have hlay := HI.out.lay
  simp only at hlay
  have hsw : w.heap.size ≤ wb.heap.size := by omega
  obtain ⟨mb, hmb⟩ : ∃ m : Int, m = max budget 0 := ⟨_, rfl⟩
  rw [← hmb]
  have hmb0 : 0 ≤ mb := by omega
  go_cut [16] (fun v wx => ∃ (g : Nat) (C : Value) (La : Option Addr) (Lc : Nat), v = .pointer (some ⟨g, 0, none⟩) ∧ w.heap.size + 3 < g ∧ Below w.heap.size w wx ∧ (∀ b, C.ownBlock = some b → w.heap.size + 4 ≤ b) ∧ wx.heap[w.heap.size + 1 + 1 + 1]? = some (.cells #[.int .i64 0, .int .i64 0, .int .i64 0, .int .i64 0] 23 (0, 0)) ∧
    Mach ⟨g, C, wx.heap.size, w.heap.size, atLay ⟨.slice SA l.length SC, consts, Ca, Cc, funcs, Fv, Fl, Fa, Fc, lay, La0, Lc0, i0, i1, i2, i3, now⟩ La Lc⟩ wx wx.heap.size (.slice none 0 0) (.slice none 0 0) ⟨zs, o0, o1, o2, o3, mb.toNat, 0, []⟩)
  case first =>
    obtain ⟨hbn, hbx⟩ | ⟨hbn, hbx⟩ : (¬ budget < 0 ∧ mb = budget) ∨ (budget < 0 ∧ mb = 0) := by omega
    all_goals clear hmb
    all_goals subst hbx
    all_goals go_region_held3 (fun w' => w'.cell? ⟨w.heap.size, 0, none⟩ = some (.slice SA l.length SC) ∧ w'.cell? ⟨w.heap.size, 1, none⟩ = some (.slice Ca consts.length Cc) ∧ w'.cell? ⟨w.heap.size, 2, none⟩ = some (.slice Fa funcs.length Fc) ∧ w'.cell? ⟨w.heap.size + 1, 0, none⟩ = some (.int .i64 i0) ∧ w'.cell? ⟨w.heap.size + 1, 1, none⟩ = some (.int .i64 i1) ∧ w'.cell? ⟨w.heap.size + 1, 2, none⟩ = some (.int .i64 i2) ∧ w'.cell? ⟨w.heap.size + 1, 3, none⟩ = some (.int .i64 i3) ∧ w'.cell? ⟨w.heap.size + 1 + 1, 0, none⟩ = some (.int .i64 o0) ∧ w'.cell? ⟨w.heap.size + 1 + 1, 1, none⟩ = some (.int .i64 o1) ∧ w'.cell? ⟨w.heap.size + 1 + 1, 2, none⟩ = some (.int .i64 o2) ∧ w'.cell? ⟨w.heap.size + 1 + 1, 3, none⟩ = some (.int .i64 o3)) (first | exact keepRun (B := wb.heap.size) (u1 := wb) (by repeat (first | (with_reducible exact HB2.out) | (with_reducible exact HB3.out) | (with_reducible exact Below.refl _ _) | (with_reducible refine Below.drew ?_) | (with_reducible refine below_dn _ ?_) | (with_reducible refine Below.alloc ?_ (by first | omega | (simp; done) | (simp; omega)) _))) (by omega) k0 k1 k2 l0 l1 l2 l3 m0 m1 m2 m3)
      (first | (go_at_call 37; refine (cloneI_any CA zs.length CC zs _ (((HZ.out.below hb0).more hsw |>.below (by repeat (first | (with_reducible exact HB2.out) | (with_reducible exact Below.refl _ _) | (with_reducible refine Below.drew ?_) | (with_reducible refine below_dn _ ?_) | (with_reducible refine Below.alloc ?_ (by first | omega | (simp; done) | (simp; omega)) _)))).more (by first | omega | (simp; done) | (simp; omega))) hzn hzc).mono ?_; rintro e u2 ⟨C2, rfl, ho2, hi2, hb2⟩; obtain ⟨Ac, cc, hC2, hcl, hcm⟩ := own_slice ho2; subst hC2; have HCC := Lib.hid (And.intro hcl hcm); clear hcl hcm; have z2 := hb2.size; (try simp at z2); have HO2 := Lib.hid ho2; have HN2 := Lib.hid hi2; have HB2 := Lib.hid (show Below wb.heap.size wb u2 from Below.trans (by repeat (first | (with_reducible exact HB3.out) | (with_reducible exact Below.refl _ _) | (with_reducible refine Below.drew ?_) | (with_reducible refine below_dn _ ?_) | (with_reducible refine Below.alloc ?_ (by first | omega | (simp; done) | (simp; omega)) _))) (hb2.mono (by first | omega | (simp; done) | (simp; omega)))); clear ho2 hi2 hb2) | (go_at_call 38; refine (cells_any SA l.length SC l _ (((HI.out.row.below hb0).more hsw |>.below (by repeat (first | (with_reducible exact HB2.out) | (with_reducible exact Below.refl _ _) | (with_reducible refine Below.drew ?_) | (with_reducible refine below_dn _ ?_) | (with_reducible refine Below.alloc ?_ (by first | omega | (simp; done) | (simp; omega)) _)))).more (by first | omega | (simp; done) | (simp; omega))) HI.out.few HI.out.sc.1 HI.out.sc.2).mono ?_; rintro e u3 ⟨⟨La, Lc, rfl, hl1, hl2, hl3⟩, hb3⟩; have z3 := hb3.size; (try simp at z3); have HL3 := Lib.hid hl3; have HC3 := Lib.hid (And.intro hl1 hl2); have HE3 := Lib.hid (show Below u2.heap.size u2 u3 from Below.trans (by repeat (first | (with_reducible exact HB2.out) | (with_reducible exact Below.refl _ _) | (with_reducible refine Below.drew ?_) | (with_reducible refine below_dn _ ?_) | (with_reducible refine Below.alloc ?_ (by first | omega | (simp; done) | (simp; omega)) _))) (hb3.mono (by first | omega | (simp; done) | (simp; omega)))); have HB3 := Lib.hid (show Below wb.heap.size wb u3 from Below.trans (by repeat (first | (with_reducible exact HB2.out) | (with_reducible exact Below.refl _ _) | (with_reducible refine Below.drew ?_) | (with_reducible refine below_dn _ ?_) | (with_reducible refine Below.alloc ?_ (by first | omega | (simp; done) | (simp; omega)) _))) (hb3.mono (by first | omega | (simp; done) | (simp; omega)))); clear hl1 hl2 hl3 hb3))
    all_goals (try go_wp2_with fail)
    all_goals go_meet
    all_goals refine ⟨_, .slice Ac zs.length cc, La, Lc, rfl, (by omega), below3 hb0 hsw (below3 HB3.out (by omega) (by repeat (first | (with_reducible exact Below.refl _ _) | (with_reducible refine Below.drew ?_) | (with_reducible refine below_dn _ ?_) | (with_reducible refine Below.alloc ?_ (by first | omega | (simp; done) | (simp; omega)) _)))), (fun b hb => by have := (HO2.out.lt b hb).1; first | omega | (simp at this; omega)), ?_, ?_⟩
    rotate_left 1
    all_goals first | (refine ((below3 HB3.out (by omega) (by repeat (first | (with_reducible exact Below.refl _ _) | (with_reducible refine Below.drew ?_) | (with_reducible refine below_dn _ ?_) | (with_reducible refine Below.alloc ?_ (by first | omega | (simp; done) | (simp; omega)) _)))).block _ (by omega)).trans hbt) | skip
    all_goals refine mach_run HI.out hb0 (.slice Ac zs.length cc) _ rfl ?_ ?_ HO2.out HN2.out HB2.out HE3.out HL3.out HC3.out (by repeat (first | (with_reducible exact Below.refl _ _) | (with_reducible refine Below.drew ?_) | (with_reducible refine below_dn _ ?_) | (with_reducible refine Below.alloc ?_ (by first | omega | (simp; done) | (simp; omega)) _))) (by simp) ?_
    all_goals first | (with_reducible (show _ ≤ _); first | omega | (simp; done) | (simp; omega)) | skip
    all_goals refine (alloc_blkAt _ _ _ _ (by first | rfl | simp)).trans ?_
    all_goals first | (simp [mcells, atLay, hlay]; done) | (simp [mcells, atLay, hlay]; omega)
  case rest =>
    subst hmb
    obtain ⟨g, C, La, Lc, rfl, hg, hbx, hCb, hvx, hM⟩ := hcut
    generalize hwd : wc = wx at *
    clear hwd k0 k1 k2 l0 l1 l2 l3 m0 m1 m2 m3 hb0 hbt hsz hsw
    have HM := Lib.hid hM
    have HBX := Lib.hid hbx
    have hzx := hM.gK
    have hC0 := hM.cK
    have HFN := Lib.hid (fun_any _ (show Env.Ok (Who.E ⟨g, C, wx.heap.size, w.heap.size, atLay ⟨.slice SA l.length SC, consts, Ca, Cc, funcs, Fv, Fl, Fa, Fc, lay, La0, Lc0, i0, i1, i2, i3, now⟩ La Lc⟩) from hE) (show Blocks ⟨g, C, wx.heap.size, w.heap.size, atLay ⟨.slice SA l.length SC, consts, Ca, Cc, funcs, Fv, Fl, Fa, Fc, lay, La0, Lc0, i0, i1, i2, i3, now⟩ La Lc⟩ from HBK.out.elim .inl fun h => .inr fun K S a h0 h1 => h _ K S a h0 h1) ((max budget 0).toNat + 1))
    obtain ⟨R, hR⟩ : ∃ R, callP (atLay ⟨.slice SA l.length SC, consts, Ca, Cc, funcs, Fv, Fl, Fa, Fc, lay, La0, Lc0, i0, i1, i2, i3, now⟩ La Lc) ((max budget 0).toNat + 1) ⟨zs, o0, o1, o2, o3, (max budget 0).toNat, 0, []⟩ 0 = R := ⟨_, rfl⟩
    have HRR := Lib.hid hR
    have HCALL := Lib.hid (show CallAt ⟨g, C, wx.heap.size, w.heap.size, atLay ⟨.slice SA l.length SC, consts, Ca, Cc, funcs, Fv, Fl, Fa, Fc, lay, La0, Lc0, i0, i1, i2, i3, now⟩ La Lc⟩ wx.heap.size ⟨zs, o0, o1, o2, o3, (max budget 0).toNat, 0, []⟩ 0 R by
      have h := call_any _ ((max budget 0).toNat + 1) HFN.out wx.heap.size ⟨zs, o0, o1, o2, o3, (max budget 0).toNat, 0, []⟩ 0 (Nat.lt_succ_self _)
      subst hR
      exact h)
    clear hM HFN hR
    obtain ⟨R1, R2⟩ := R
    by_cases hr0 : R2 = 0
    · subst hr0
      go_upto_region 5 with (go_at_call 39; refine (HCALL.out _ _ _ HM.out).mono ?_; rintro e w2 ⟨rfl, hl⟩; obtain ⟨sv, kv, hM2, hF, hfar⟩ := hl; have HM2 := Lib.hid hM2; have HF := Lib.hid hF; clear hM2 hF hfar)
      have hvb : w2.heap[w.heap.size + 1 + 1 + 1]? = some (.cells #[.int .i64 0, .int .i64 0, .int .i64 0, .int .i64 0] 23 (0, 0)) := (HF.out.block (w.heap.size + 1 + 1 + 1) (by omega) (show w.heap.size + 1 + 1 + 1 ≠ g by omega) (fun e => by have := hCb _ e; omega)).trans hvx
      have g0 : w2.cell? ⟨g, 0, none⟩ = some C := HM2.out.cell 0
      have g1 : w2.cell? ⟨g, 1, none⟩ = some (.int .i64 R1.o0) := HM2.out.cell 1
      have g2 : w2.cell? ⟨g, 2, none⟩ = some (.int .i64 R1.o1) := HM2.out.cell 2
      have g3 : w2.cell? ⟨g, 3, none⟩ = some (.int .i64 R1.o2) := HM2.out.cell 3
      have g4 : w2.cell? ⟨g, 4, none⟩ = some (.int .i64 R1.o3) := HM2.out.cell 4
      have g15 : w2.cell? ⟨g, 15, none⟩ = some (.int .i64 R1.used) := HM2.out.cell 15
      have v0 : ∀ j, w2.cell? ⟨w.heap.size + 1 + 1 + 1, j, none⟩ = (#[.int .i64 0, .int .i64 0, .int .i64 0, .int .i64 0] : Array Value)[j]? := fun j => cell_of_row w2 _ j _ _ (0, 0) hvb
      have vf : ∀ j, w2.frozen? ⟨w.heap.size + 1 + 1 + 1, j, none⟩ = false := fun j => by simp [World.frozen?, hvb]
      have hgne : ¬ g = w.heap.size + 1 + 1 + 1 := by omega
      have hgnf : ¬ w.heap.size + 1 + 1 + 1 = g := by omega
      have a0 := v0 0
      have a1 := v0 1
      have a2 := v0 2
      have a3 := v0 3
      have f0 := vf 0
      have f1 := vf 1
      have f2 := vf 2
      have f3 := vf 3
      simp at a0 a1 a2 a3
      clear v0 vf
      have hbF : Below w.heap.size w w2 := HBX.out.trans (fr_below HF.out (by omega) (show w.heap.size ≤ g by omega) (fun x hx => by have := hCb x hx; omega))
      obtain ⟨Ac, cc, hC, hcl, hcm⟩ := own_slice HM2.out.cells
      have HRow := Lib.hid (Row.of_own (hC ▸ HM2.out.cells : w2.ownsRow w.heap.size 3 1 (.slice Ac R1.cells.length cc) R1.cells.length (R1.cells.map (Value.int .i64))))
      have g0' : w2.cell? ⟨g, 0, none⟩ = some (.slice Ac R1.cells.length cc) := by rw [← hC]; exact g0
      have hgs : g < w2.heap.size := Nat.lt_of_lt_of_le hzx HF.out.size
      have hn : R1.cells.length ≤ 1000000 := by
        have h := callP_cells (atLay ⟨.slice SA l.length SC, consts, Ca, Cc, funcs, Fv, Fl, Fa, Fc, lay, La0, Lc0, i0, i1, i2, i3, now⟩ La Lc) ((max budget 0).toNat + 1) ⟨zs, o0, o1, o2, o3, (max budget 0).toNat, 0, []⟩ 0
        rw [HRR.out] at h
        simp only at h
        omega
      clear g0
      have hvs : w.heap.size + 1 + 1 + 1 < w2.heap.size := by omega
      go_region_held3 (fun w' => w'.cell? ⟨g, 0, none⟩ = some (.slice Ac R1.cells.length cc) ∧ w'.cell? ⟨g, 1, none⟩ = some (.int .i64 R1.o0) ∧ w'.cell? ⟨g, 2, none⟩ = some (.int .i64 R1.o1) ∧ w'.cell? ⟨g, 3, none⟩ = some (.int .i64 R1.o2) ∧ w'.cell? ⟨g, 4, none⟩ = some (.int .i64 R1.o3) ∧ w'.cell? ⟨g, 15, none⟩ = some (.int .i64 R1.used)) (refine ⟨?_, ?_, ?_, ?_, ?_, ?_⟩ <;> (go_simp; done))
        (first | (go_at_call 37; refine (cloneI_any Ac R1.cells.length cc R1.cells _ ((HRow.out.below (by repeat (first | (with_reducible exact Below.refl _ _) | (with_reducible refine Below.drew ?_) | (with_reducible refine below_dn _ ?_) | (with_reducible refine Below.alloc ?_ (by first | omega | (simp; done) | (simp; omega)) _)))).more (by first | omega | (simp; done) | (simp; omega))) hn hcl).mono ?_; rintro e u4 ⟨C4, rfl, ho4, hi4, hb4⟩; obtain ⟨A4, c4, hC4, _, _⟩ := own_slice ho4; subst hC4; have z4 := hb4.size; (try simp at z4); have HO4 := Lib.hid ho4; have HB4 := Lib.hid (show Below w2.heap.size w2 u4 from Below.trans (by repeat (first | (with_reducible exact Below.refl _ _) | (with_reducible refine Below.drew ?_) | (with_reducible refine below_dn _ ?_) | (with_reducible refine Below.alloc ?_ (by first | omega | (simp; done) | (simp; omega)) _))) (hb4.mono (by first | omega | (simp; done) | (simp; omega)))); have q0 := (dcell HB4.out hgs 0).trans g0'; have q1 := (dcell HB4.out hgs 1).trans g1; have q2 := (dcell HB4.out hgs 2).trans g2; have q3 := (dcell HB4.out hgs 3).trans g3; have q4 := (dcell HB4.out hgs 4).trans g4; have q15 := (dcell HB4.out hgs 15).trans g15; (try have qa0 := (dcell HB4.out hvs 0).trans a0); (try have qf0 := (dfroz HB4.out hvs 0).trans f0); (try have qa1 := (dcell HB4.out hvs 1).trans a1); (try have qf1 := (dfroz HB4.out hvs 1).trans f1); (try have qa2 := (dcell HB4.out hvs 2).trans a2); (try have qf2 := (dfroz HB4.out hvs 2).trans f2); (try have qa3 := (dcell HB4.out hvs 3).trans a3); (try have qf3 := (dfroz HB4.out hvs 3).trans f3); clear ho4 hi4 hb4))
      go_wp2_with fail
      have hO := own_mono HO4.out (show w.heap.size ≤ _ by first | omega | (simp; omega))
      have hA : Value.ownBlock (.slice A4 R1.cells.length c4) ≠ some (w.heap.size + 1 + 1 + 1) := fun e => by have := (HO4.out.lt _ e).1; first | omega | (simp at this; omega)
      all_goals refine bodyPost_ret (v := .tuple #[.slice A4 R1.cells.length c4, .agg #[.int .i64 R1.o0, .int .i64 R1.o1, .int .i64 R1.o2, .int .i64 R1.o3], .int .i64 R1.used, .int .i64 0]) (by simp [results, Tryd.results22, go_sem, qa0, qa1, qa2, qa3]) rfl (runBack_ok HRR.out ?_ _ ?_ rfl)
      · repeat (first | exact below3 hbF (by omega) HB4.out | refine Below.drew ?_ | refine Below.setCell ?_ (by first | omega | (simp; done) | (simp; omega)) _)
      · exact own_setFar (own_setFar (own_setFar (own_setFar hO hA _) hA _) hA _) hA _
    · go_upto_region 4 with (go_at_call 39; refine (HCALL.out _ _ _ HM.out).mono ?_; rintro e w2 ⟨rfl, hl⟩; obtain ⟨sv, kv, hM2, hF, hfar⟩ := hl; have HM2 := Lib.hid hM2; have HF := Lib.hid hF; clear hM2 hF hfar)
      have hvb : w2.heap[w.heap.size + 1 + 1 + 1]? = some (.cells #[.int .i64 0, .int .i64 0, .int .i64 0, .int .i64 0] 23 (0, 0)) := (HF.out.block (w.heap.size + 1 + 1 + 1) (by omega) (show w.heap.size + 1 + 1 + 1 ≠ g by omega) (fun e => by have := hCb _ e; omega)).trans hvx
      have g0 : w2.cell? ⟨g, 0, none⟩ = some C := HM2.out.cell 0
      have g1 : w2.cell? ⟨g, 1, none⟩ = some (.int .i64 R1.o0) := HM2.out.cell 1
      have g2 : w2.cell? ⟨g, 2, none⟩ = some (.int .i64 R1.o1) := HM2.out.cell 2
      have g3 : w2.cell? ⟨g, 3, none⟩ = some (.int .i64 R1.o2) := HM2.out.cell 3
      have g4 : w2.cell? ⟨g, 4, none⟩ = some (.int .i64 R1.o3) := HM2.out.cell 4
      have g15 : w2.cell? ⟨g, 15, none⟩ = some (.int .i64 R1.used) := HM2.out.cell 15
      have v0 : ∀ j, w2.cell? ⟨w.heap.size + 1 + 1 + 1, j, none⟩ = (#[.int .i64 0, .int .i64 0, .int .i64 0, .int .i64 0] : Array Value)[j]? := fun j => cell_of_row w2 _ j _ _ (0, 0) hvb
      have vf : ∀ j, w2.frozen? ⟨w.heap.size + 1 + 1 + 1, j, none⟩ = false := fun j => by simp [World.frozen?, hvb]
      have hgne : ¬ g = w.heap.size + 1 + 1 + 1 := by omega
      have hgnf : ¬ w.heap.size + 1 + 1 + 1 = g := by omega
      have a0 := v0 0
      have a1 := v0 1
      have a2 := v0 2
      have a3 := v0 3
      have f0 := vf 0
      have f1 := vf 1
      have f2 := vf 2
      have f3 := vf 3
      simp at a0 a1 a2 a3
      clear v0 vf
      have hbF : Below w.heap.size w w2 := HBX.out.trans (fr_below HF.out (by omega) (show w.heap.size ≤ g by omega) (fun x hx => by have := hCb x hx; omega))
      go_region
      go_wp2_with fail
      all_goals refine bodyPost_ret (v := .tuple #[.slice none 0 0, .agg #[.int .i64 0, .int .i64 0, .int .i64 0, .int .i64 0], .int .i64 R1.used, .int .i64 R2]) (by simp [results, Tryd.results22, go_sem, a0, a1, a2, a3]) rfl (runBack_err HRR.out ?_ hr0 rfl)
      all_goals repeat (first | exact hbF | refine Below.drew ?_ | refine Below.setCell ?_ (by first | omega | (simp; done) | (simp; omega)) _)
end Go.Proofs.YtngobbbinacomaaDoor
