/- Chapter 14: the document's run: a function of made code. -/
import Derived.Test.YtngobbbinacomaaDoorQ43
import Derived.Outline
import Derived.Deep.LoopGhost
namespace Go.Proofs.YtngobbbinacomaaDoor
open Go.RowKit Go.Proofs.YtngobbbinacomaaDoor.c11 Go.Proofs.YtngobbbinacomaaDoor.c10 Go.Proofs.YtngobbbinacomaaDoor.c13
set_option linter.unusedVariables false
set_option linter.unusedSimpArgs false
attribute [local go_sem ↓] Go.wp_at_zero Go.wp_at_succ
/-- A function's contract, with so much left. -/
def RunOk (M : RWho) (cells : List CellD) (f : Nat) : Prop := ∀ (w : World) (S : St) (j : Nat) (b : List Int), RMach M w S → M.E.funcs[j]? = some b → CellsK cells S.cells → S.left < f →
  Calls Tryd.prog 40 #[.pointer (some ⟨M.g, 0, none⟩), .int .i64 (j : Int)] w fun e w' => e = .returned (.int .i64 (execP M.E f b 0 { S with stk := [] }).2) ∧ RMach M w' (execP M.E f b 0 { S with stk := [] }).1 ∧ RFr M w.heap.size w w'
def RunRel (M : RWho) (cells : List CellD) (fn : Int) (w : World) (b : List Int) (f : Nat) (R : St × Int) (ff : Nat) (sv pv : Value) (wr : World) : Prop :=
  ∃ (S : St) (q : Int) (o : List Int), pv = .int .i64 q ∧ RMach M wr S ∧ RFr M w.heap.size w wr ∧ StackAt wr w.heap.size sv S.stk ∧ PlaceK cells fn b q o ∧ TypedS cells o S ∧ S.left < ff ∧ ff ≤ f ∧ o.length ≤ 8 ∧ execP M.E ff b q S = R
/-- An instruction counted. -/
theorem RMach.count {M : RWho} {w : World} {S : St} (h : RMach M w S) (h0 : S.left ≠ 0) :
    RMach M ((w.setCell ⟨M.g, 14, none⟩ (.int .i64 ((S.left : Int) - 1))).setCell ⟨M.g, 15, none⟩ (.int .i64 ((S.used : Int) + 1))) { S with left := S.left - 1, used := S.used + 1 } := by
  have h1 := h.setG (S' := { S with left := S.left - 1 }) 14 (.int .i64 ((S.left : Int) - 1)) (by simp [RWho.arr, rcells]; omega) rfl (by have := h.bud; show S.used + (S.left - 1) ≤ 1000000; omega)
  exact h1.setG (S' := { S with left := S.left - 1, used := S.used + 1 }) 15 (.int .i64 ((S.used : Int) + 1)) (by simp [RWho.arr, rcells]) rfl (by have := h.bud; show S.used + 1 + (S.left - 1) ≤ 1000000; omega)
set_option maxHeartbeats 8000000 in
set_option maxRecDepth 100000 in
theorem rrun_any (M : RWho) (cells : List CellD) (hlay : M.E.lay = cells) (hconst : M.E.consts = [7, -1]) (hL : LayOk cells) (nf : Nat) (hF : Funcs12 cells nf M.E.funcs) : ∀ f, RunOk M cells f := by
  intro f0
  induction f0 using Nat.strongRecOn with
  | _ f0 IH =>
  intro w S j b h hjb hck hl
  obtain ⟨R, hR⟩ : ∃ R, execP M.E f0 b 0 { S with stk := [] } = R := ⟨_, rfl⟩
  rw [hR]
  have HR := Lib.hid hR
  have HM := Lib.hid h
  have HIH := Lib.hid IH
  have HL := Lib.hid hl
  have HCK := Lib.hid hck
  have hjl : j < M.E.funcs.length := (List.getElem?_eq_some_iff.1 hjb).1
  obtain ⟨x, off, hFA, ⟨hx, -⟩, hfc⟩ := h.stat.funcs.2 (by omega)
  have vj : w.cell? ⟨x, off + j, none⟩ = some (.slice (M.E.Fv j) b.length (M.E.Fl j)) := by
    refine hfc j _ ?_
    rw [List.getElem?_map, List.getElem?_range hjl]
    simp [List.getD_eq_getElem?_getD, hjb]
  have m2 : w.cell? ⟨M.g, 2, none⟩ = some (.slice (some ⟨x, off, none⟩) M.E.funcs.length M.E.Fc) := (h.cell 2).trans (by rw [← hFA]; rfl)
  have hfcc := h.stat.fc
  have hf1 : (M.E.funcs.length : Int) ≤ M.E.Fc := by omega
  have hf2 : (M.E.Fc : Int) ≤ 9223372036854775807 := by omega
  have hj1 : (j : Int) < M.E.funcs.length := by omega
  have hmade := hF.made j b hjb
  obtain ⟨fn, hfn⟩ : ∃ fn : Int, (if j = 0 then (nf : Int) else 0) = fn := ⟨_, rfl⟩
  have hfn2 : fn ≤ nf := by rw [← hfn]; split <;> omega
  rw [hfn] at hmade
  have HP0 := Lib.hid hmade.startK
  have HFN := Lib.hid hfn2
  have hgw := h.gw
  have hcode := fun (u : World) (S' : St) (hm : RMach M u S') => hm.stat.code j b hjb
  clear h hjb hck hl hR IH hfc hFA hfcc hmade hfn
  go_enter Tryd.func40, Tryd.ntmps40
  go_wp2_with fail
  go_loopg [6, 7] f0 (fun ff s p wr => RunRel M cells fn w b f0 R ff s p wr)
  case atStart => exact ⟨{ S with stk := [] }, 0, [], rfl, HM.out.stk [], RFr.refl _ _ _, World.ownsRow_nil _ _ _ _, HP0.out, ⟨HCK.out, ⟨rfl, by simp⟩⟩, HL.out, Nat.le_refl _, by simp, HR.out⟩
  case round =>
    obtain ⟨S1, q, o, rfl, hm, hfr, hsk, hpl, hty, hl1, hle, ho8, hex⟩ := hrel
    obtain ⟨f', hg⟩ : ∃ f', gk = f' + 1 := ⟨gk - 1, by omega⟩
    have hgk : gk - 1 = f' := by omega
    rw [hg, execP] at hex
    have m14 : wr.cell? ⟨M.g, 14, none⟩ = some (.int .i64 S1.left) := hm.cell 14
    have m15 : wr.cell? ⟨M.g, 15, none⟩ = some (.int .i64 S1.used) := hm.cell 15
    have f14 := hm.frozen 14
    have f15 := hm.frozen 15
    have hbud := hm.bud
    have HLT := Lib.hid (show S1.left < f' + 1 by omega)
    have HLE := Lib.hid (show f' + 1 ≤ f0 by omega)
    have HG := Lib.hid hg
    have HGK := Lib.hid hgk
    clear hl1 hle hg hgk
    by_cases h0 : S1.left = 0
    · rw [if_pos h0] at hex
      rw [h0] at m14
      have HX := Lib.hid hex
      have HM1 := Lib.hid hm
      have HFR := Lib.hid hfr
      clear hm hfr hex h0 hbud hsk hpl hty
      go_wp2
      go_ret
      rw [← HX.out]
      exact ⟨rfl, HM1.out, HFR.out⟩
    · rw [if_neg h0] at hex
      have h0' : ((S1.left : Int) == 0) = false := by simpa using h0
      have hmc := hm.count h0
      obtain ⟨wn, hwn⟩ : ∃ wn : World, (wr.setCell ⟨M.g, 14, none⟩ (.int .i64 ((S1.left : Int) - 1))).setCell ⟨M.g, 15, none⟩ (.int .i64 ((S1.used : Int) + 1)) = wn := ⟨_, rfl⟩
      obtain ⟨S2, hS2⟩ : ∃ S2 : St, ({ S1 with left := S1.left - 1, used := S1.used + 1 } : St) = S2 := ⟨_, rfl⟩
      rw [hwn, hS2] at hmc
      have hstk : S2.stk = S1.stk := by rw [← hS2]
      have hcel : S2.cells = S1.cells := by rw [← hS2]
      have hzn : wn.heap.size = wr.heap.size := by rw [← hwn]; simp [World.setCell]
      have hfn : RFr M w.heap.size w wn := by rw [← hwn]; exact (hfr.setG _ _).setG _ _
      have hsn : StackAt wn w.heap.size u6 S2.stk := by
        rw [hstk, ← hwn]
        have hne : u6.ownBlock ≠ some M.g := fun e => by have := (hsk.lt _ e).1; have := HM.out.gw; omega
        exact own_setFar (own_setFar hsk hne _) hne _
      have htn : TypedS cells o S2 := ⟨by rw [hcel]; exact hty.cells, by rw [hstk]; exact hty.stk⟩
      have hcd := hcode wn S2 hmc
      have hbytes : ∀ i, i < b.length → 0 ≤ b.getD i 0 ∧ b.getD i 0 < 256 := fun i hi => hcd.2.2.2.2 _ (by rw [List.getD_eq_getElem?_getD, List.getElem?_eq_getElem hi]; exact List.getElem_mem hi)
      have hcame : Came wn (M.E.Fv j) b.length (M.E.Fl j) fun i => .int .u8 (b.getD i 0) := by
        refine ⟨hcd.2.1, hcd.2.2.1, fun hb0 => ?_⟩
        obtain ⟨y, yo, hA, ⟨hX, -⟩, hc⟩ := hcd.1.2 hb0
        refine ⟨y, yo, hA, Nat.lt_of_lt_of_le hX hmc.kw, fun i hi => ?_⟩
        exact hc i _ (by simp [List.getD_eq_getElem?_getD, List.getElem?_eq_getElem hi])
      have RD := rread_any (M.E.Fv j) b.length (M.E.Fl j) (fun i => b.getD i 0) q wn hcame (by have := hcd.2.2.2.1; omega) hbytes
      have hb1 : (S1.left : Int) ≤ 1000000 := by omega
      have hb2 : (S1.used : Int) ≤ 1000000 := by omega
      have hb0 : (0 : Int) ≤ S1.left := by omega
      have hb3 : (0 : Int) ≤ S1.used := by omega
      have HMN := Lib.hid hmc
      have HFRN := Lib.hid hfn
      have HSN := Lib.hid hsn
      have HTN := Lib.hid htn
      have HWN := Lib.hid hwn
      have HS2 := Lib.hid hS2
      have HSTK := Lib.hid hstk
      have HZN := Lib.hid hzn
      have HL2 := Lib.hid (show S2.left < f' by have := HLT.out; rw [← hS2]; show S1.left - 1 < f'; omega)
      rw [hS2] at hex
      have HO8 := Lib.hid ho8
      clear hm hfr hmc hfn hsn htn hwn hS2 hstk hcel hzn hcd hbytes hcame hty hsk hbud ho8
      rcases hpl.read with hr | ⟨sp, s, a, N, out, hr, hpk, hdo, ho8, hnx, hjz⟩
      · have hr' : rd (fun i => b.getD i 0) b.length q = ((q, q + 1, 0, 0, 0), 0) := hr
        rw [hr'] at RD
        simp only [rdV] at RD
        rw [hr] at hex
        simp only [ne_eq, not_true_eq_false, if_false, if_true] at hex
        have HRD := Lib.hid RD
        have HX := Lib.hid hex
        clear RD hr hr' hex hpl h0
        go_wp2_with fail
        rw [HWN.out]
        refine HRD.out.mono ?_
        rintro e u ⟨rfl, hbu⟩
        have HMU := Lib.hid (HMN.out.below hbu)
        have HFU := Lib.hid (HFRN.out.below hbu (by have := HFRN.out.size; omega))
        clear hbu
        unfold opT
        go_wp2_with fail
        go_ret
        rw [← HX.out]
        exact ⟨rfl, HMU.out.alloc _, HFU.out.alloc (by have := HFU.out.size; omega) _⟩
      · have hs0 := hpk.s0
        have hr' : rd (fun i => b.getD i 0) b.length q = ((q, q + 1 + bearsN s, s, if 0 < bearsN s then a else 0, if s = 1 then N else 0), 0) := hr
        rw [hr'] at RD
        simp only [rdV] at RD
        rw [hr] at hex
        simp only [ne_eq, not_true_eq_false, if_false] at hex
        rw [if_neg (show ¬ s = 0 by omega), if_neg hpk.s18] at hex
        have q0 : (s == 0) = false := by simp; omega
        have q18 : (s == 18) = false := by simpa using hpk.s18
        have HRD := Lib.hid RD
        clear RD hr hr' h0 hs0
        by_cases h19 : s = 19
        · subst h19
          rw [if_pos rfl] at hex
          obtain rfl := jz_top hdo
          obtain ⟨t, y, ht, hs1, hy⟩ := HTN.out.stk.top
          have e1 := popS_top ht
          rw [e1] at hex
          simp only [show (0 : Int) < bearsN 19 from by decide, if_true] at hex
          rw [if_pos (show (0 : Int) < bearsN 19 by decide), if_neg (show ¬ (19 : Int) = 1 by decide)] at HRD
          have HX := Lib.hid hex
          have hln : S2.stk.length = t.length + 1 := by rw [ht]; simp
          obtain ⟨sg, c, hvv, hsg, hsw⟩ := World.ownsRow.form HSN.out (by omega)
          subst hvv
          obtain ⟨_, c', hvc, hlc, hcm⟩ := own_slice HSN.out
          obtain rfl : c = c' := by injection hvc
          unfold maxLen at hcm
          have hv2 : wn.ownsRow w.heap.size 106 2 (.slice (some ⟨sg, 0, none⟩) (t.length + 1) c) (t.length + 1) (valRow t ++ valCells (1, y)) := by
            have h2 := HSN.out
            unfold StackAt at h2
            rw [hln, ht, valRow_app] at h2
            exact h2
          have s1 : wn.cell? ⟨sg, t.length * 2 + 1, none⟩ = some (.int .i64 y) := by
            have h3 := hv2.cells rfl (t.length * 2 + 1) (.int .i64 y) (by rw [List.getElem?_append_right (by rw [valRow_length]; omega), valRow_length]; simp [valCells])
            rw [Addr.add_lit, Nat.zero_add] at h3
            exact h3
          have hpop : wn.ownsRow w.heap.size 106 2 (.slice (some ⟨sg, 0, none⟩) t.length c) t.length (valRow t) := by
            have h3 := own_pop2 hv2 (k := t.length) (by omega) (by omega)
            rwa [List.take_left' (by rw [valRow_length])] at h3
          have HPOP := Lib.hid hpop
          have HTS := Lib.hid (show TypedS cells out { S2 with stk := t } from ⟨HTN.out.cells, hs1⟩)
          have hn8 : t.length ≤ 8 := by
            have h4 := congrArg List.length hs1.kinds
            rw [List.length_map] at h4
            omega
          rw [hln] at hlc
          have hl1 : (t.length : Int) + 1 ≤ c := by omega
          have hl2 : (c : Int) ≤ 9223372036854775807 := by omega
          have hl3 : (t.length : Int) ≤ 8 := by omega
          have hl4 : (t.length : Int) ≤ c := by omega
          have HPN := Lib.hid hnx
          have HPJ := Lib.hid (hjz rfl)
          have HO8' := Lib.hid ho8
          obtain ⟨n, hn⟩ : ∃ n, t.length = n := ⟨_, rfl⟩
          have HN := Lib.hid hn
          rw [hln, hn]
          rw [hn] at hlc hl1 hl3 hl4 s1 hpop HPOP
          clear hex hv2 hpop hvc hs1 ht e1 hnx hjz ho8 hln hn hpl hpk hdo hn8
          generalize hnx1 : q + 1 + bearsN 19 = nx at *
          clear hnx1
          by_cases hy0 : y = 0
          · skip
            subst hy0
            go_wp2_with fail
            rw [HWN.out]
            refine HRD.out.mono ?_
            rintro e u ⟨rfl, hbu⟩
            have s1u := (dcell hbu hsw (n * 2 + 1)).trans s1
            have hzu := hbu.size
            have hsu : sg < u.heap.size := by omega
            have hsu1 : sg < u.heap.size + 1 := by omega
            have hsu2 : ¬ sg = u.heap.size := by omega
            have HMU := Lib.hid ((HMN.out.below hbu).alloc (.cells #[.int .i64 q, .int .i64 nx, .int .i64 19, .int .i64 a, .int .i64 0] 67))
            have HFU := Lib.hid ((HFRN.out.below hbu (by have := HFRN.out.size; omega)).alloc (by have := HFRN.out.size; omega) (.cells #[.int .i64 q, .int .i64 nx, .int .i64 19, .int .i64 a, .int .i64 0] 67))
            have HPU := Lib.hid ((row_keep HPOP.out hbu).alloc (.cells #[.int .i64 q, .int .i64 nx, .int .i64 19, .int .i64 a, .int .i64 0] 67))
            unfold opT
            clear hbu
            go_wp2_with fail
            go_roundg (gk - 1)
            case measure => have := HG.out; omega
            case rel =>
              have R1 : RunRel M cells fn w b f0 R (gk - 1) (.slice (some ⟨sg, 0, none⟩) n c) (.int .i64 a) (u.alloc (.cells #[.int .i64 q, .int .i64 nx, .int .i64 19, .int .i64 a, .int .i64 0] 67)) :=
                ⟨{ S2 with stk := t }, a, out, rfl, HMU.out.stk t, HFU.out, (by unfold StackAt; rw [show ({ S2 with stk := t } : St).stk.length = n from HN.out]; exact HPU.out), HPJ.out, HTS.out, by have := HL2.out; have := HGK.out; show S2.left < gk - 1; omega, by have := HLE.out; have := HGK.out; omega, HO8'.out, by rw [HGK.out]; have hh := HX.out; simpa using hh⟩
              first
                | exact R1
                | ((repeat apply Exists.intro); exact ⟨R1, rfl⟩)
          · skip
            have hy1 : (y == 0) = false := by simpa using hy0
            have HY := Lib.hid hy0
            clear hy0
            go_wp2_with fail
            rw [HWN.out]
            refine HRD.out.mono ?_
            rintro e u ⟨rfl, hbu⟩
            have s1u := (dcell hbu hsw (n * 2 + 1)).trans s1
            have hzu := hbu.size
            have hsu : sg < u.heap.size := by omega
            have hsu1 : sg < u.heap.size + 1 := by omega
            have hsu2 : ¬ sg = u.heap.size := by omega
            have HMU := Lib.hid ((HMN.out.below hbu).alloc (.cells #[.int .i64 q, .int .i64 nx, .int .i64 19, .int .i64 a, .int .i64 0] 67))
            have HFU := Lib.hid ((HFRN.out.below hbu (by have := HFRN.out.size; omega)).alloc (by have := HFRN.out.size; omega) (.cells #[.int .i64 q, .int .i64 nx, .int .i64 19, .int .i64 a, .int .i64 0] 67))
            have HPU := Lib.hid ((row_keep HPOP.out hbu).alloc (.cells #[.int .i64 q, .int .i64 nx, .int .i64 19, .int .i64 a, .int .i64 0] 67))
            unfold opT
            clear hbu
            go_wp2_with fail
            go_roundg (gk - 1)
            case measure => have := HG.out; omega
            case rel =>
              have R1 : RunRel M cells fn w b f0 R (gk - 1) (.slice (some ⟨sg, 0, none⟩) n c) (.int .i64 nx) (u.alloc (.cells #[.int .i64 q, .int .i64 nx, .int .i64 19, .int .i64 a, .int .i64 0] 67)) :=
                ⟨{ S2 with stk := t }, nx, out, rfl, HMU.out.stk t, HFU.out, (by unfold StackAt; rw [show ({ S2 with stk := t } : St).stk.length = n from HN.out]; exact HPU.out), HPN.out, HTS.out, by have := HL2.out; have := HGK.out; show S2.left < gk - 1; omega, by have := HLE.out; have := HGK.out; omega, HO8'.out, by rw [HGK.out]; have hh := HX.out; rw [if_neg HY.out] at hh; exact hh⟩
              first
                | exact R1
                | ((repeat apply Exists.intro); exact ⟨R1, rfl⟩)
        · rw [if_neg h19] at hex
          have q19 : (s == 19) = false := by simpa using h19
          by_cases h20 : s = 20
          · subst h20
            rw [if_pos rfl] at hex
            simp only [show (0 : Int) < bearsN 20 from by decide, if_true] at hex
            rw [if_pos (show (0 : Int) < bearsN 20 by decide), if_neg (show ¬ (20 : Int) = 1 by decide)] at HRD
            obtain ⟨ha1, ha2⟩ := hpk.call rfl
            obtain ⟨aj, rfl⟩ : ∃ aj : Nat, a = aj := ⟨a.toNat, by omega⟩
            have hajl : aj < M.E.funcs.length := by have := HFN.out; have := hF.len; omega
            obtain ⟨b', hb'⟩ : ∃ b', M.E.funcs[aj]? = some b' := ⟨_, List.getElem?_eq_getElem hajl⟩
            have hgd : M.E.funcs.getD aj [] = b' := by rw [List.getD_eq_getElem?_getD, hb']; rfl
            have hmd := hF.made aj b' hb'
            rw [if_neg (show ¬ aj = 0 by omega)] at hmd
            have e6 : ({ S1 with left := S1.left - 1, used := S1.used + 1, stk := [] } : St) = { S2 with stk := [] } := by rw [← HS2.out]
            rw [if_pos (show (aj : Int) < M.E.funcs.length by omega), Int.toNat_natCast, hgd, e6, ← HSTK.out] at hex
            have hoo : out = o := by
              have e : doesU cells 20 (aj : Int).toNat o = some o := rfl
              rw [e] at hdo
              exact (Option.some.inj hdo).symm
            subst hoo
            have hty1 := exec_typed hlay hconst hL hF f' 0 b' 0 [] { S2 with stk := [] } hmd.startK (by omega) ⟨HTN.out.cells, ⟨rfl, by simp⟩⟩ HL2.out
            have hlf := execP_left M.E f' b' 0 { S2 with stk := [] }
            have RUNC := Lib.hid (fun (u : World) (hmu : RMach M u S2) => HIH.out f' (by have := HLE.out; omega) u S2 aj b' hmu hb' HTN.out.cells HL2.out)
            obtain ⟨⟨S3, er⟩, hE⟩ : ∃ E1, execP M.E f' b' 0 { S2 with stk := [] } = E1 := ⟨_, rfl⟩
            rw [hE] at hex hty1 hlf RUNC
            simp only at hex hty1 hlf
            have HX := Lib.hid hex
            have HT1 := Lib.hid hty1
            have HLF := Lib.hid hlf.1
            have HPN := Lib.hid hnx
            have HO8' := Lib.hid ho8
            clear hex hty1 hlf hnx ho8 hpl hpk hdo hjz h19 hE e6 hmd hgd hb' ha1 ha2
            generalize hnx1 : q + 1 + bearsN 20 = nx at *
            clear hnx1
            by_cases her : er = 0
            · subst her
              go_wp2_with fail
              rw [HWN.out]
              refine HRD.out.mono ?_
              rintro e u ⟨rfl, hbu⟩
              have hzu := hbu.size
              have HMU := Lib.hid ((HMN.out.below hbu).alloc (.cells #[.int .i64 q, .int .i64 nx, .int .i64 20, .int .i64 (aj : Int), .int .i64 0] 67))
              have HFU := Lib.hid ((HFRN.out.below hbu (by have := HFRN.out.size; omega)).alloc (by have := HFRN.out.size; omega) (.cells #[.int .i64 q, .int .i64 nx, .int .i64 20, .int .i64 (aj : Int), .int .i64 0] 67))
              have HSU := Lib.hid ((HSN.out.below hbu).below (alloc_bel u (.cells #[.int .i64 q, .int .i64 nx, .int .i64 20, .int .i64 (aj : Int), .int .i64 0] 67)))
              unfold opT
              clear hbu
              go_wp2_with fail
              refine (RUNC.out _ HMU.out).mono ?_
              rintro e u2 ⟨rfl, hm2, hfr2⟩
              have HM2 := Lib.hid hm2
              have HF2 := Lib.hid (HFU.out.trans (hfr2.mono (by have := HFU.out.size; simpa using this)))
              have HS3 := Lib.hid (own_fr HSU.out (fun b hb => hfr2.block b (HSU.out.lt b hb).2 (fun e => by have := (HSU.out.lt b hb).1; have := HM.out.gw; omega) (fun e => by have := (HSU.out.lt b hb).1; have := HM.out.cw; omega)))
              clear hm2 hfr2
              go_wp2_with fail
              go_roundg (gk - 1)
              case measure => have := HG.out; omega
              case rel =>
                have R1 : RunRel M cells fn w b f0 R (gk - 1) u6 (.int .i64 nx) u2 :=
                  ⟨{ S3 with stk := S2.stk }, nx, out, rfl, HM2.out.stk S2.stk, HF2.out, HS3.out, HPN.out, ⟨HT1.out.1 trivial, HTN.out.stk⟩, by have := HL2.out; have := HGK.out; have h5 : S3.left ≤ S2.left := HLF.out; show S3.left < gk - 1; omega, by have := HLE.out; have := HGK.out; omega, HO8'.out, by rw [HGK.out]; have hh := HX.out; simpa using hh⟩
                first
                  | exact R1
                  | ((repeat apply Exists.intro); exact ⟨R1, rfl⟩)
            · have her' : (er == 0) = false := by simpa using her
              have her2 : (er != 0) = true := by simpa using her
              have HX2 := Lib.hid (show (({ S3 with stk := S2.stk } : St), er) = R by have := HX.out; rwa [if_neg her] at this)
              clear her
              go_wp2_with fail
              rw [HWN.out]
              refine HRD.out.mono ?_
              rintro e u ⟨rfl, hbu⟩
              have hzu := hbu.size
              have HMU := Lib.hid ((HMN.out.below hbu).alloc (.cells #[.int .i64 q, .int .i64 nx, .int .i64 20, .int .i64 (aj : Int), .int .i64 0] 67))
              have HFU := Lib.hid ((HFRN.out.below hbu (by have := HFRN.out.size; omega)).alloc (by have := HFRN.out.size; omega) (.cells #[.int .i64 q, .int .i64 nx, .int .i64 20, .int .i64 (aj : Int), .int .i64 0] 67))
              unfold opT
              clear hbu
              go_wp2_with fail
              refine (RUNC.out _ HMU.out).mono ?_
              rintro e u2 ⟨rfl, hm2, hfr2⟩
              have HM2 := Lib.hid hm2
              have HF2 := Lib.hid (HFU.out.trans (hfr2.mono (by have := HFU.out.size; simpa using this)))
              clear hm2 hfr2
              go_wp2_with fail
              go_ret
              rw [← HX2.out]
              exact ⟨rfl, HM2.out.stk S2.stk, HF2.out⟩
          · rw [if_neg h20] at hex
            have q20 : (s == 20) = false := by simpa using h20
            obtain ⟨vA, vc, hu6, hlc, hcm⟩ := own_slice HSN.out
            subst hu6
            unfold maxLen at hcm
            obtain ⟨i0, hi, hz0, hz1, hz2⟩ := info_parts valInfo
            have t22 := valTy
            have hst8 : S2.stk.length ≤ 8 := by
              have h4 := congrArg List.length HTN.out.stk.kinds
              rw [List.length_map] at h4
              have := HO8.out
              omega
            obtain ⟨aa, haa⟩ : ∃ aa, (if 0 < bearsN s then a else 0) = aa := ⟨_, rfl⟩
            obtain ⟨nn, hnn⟩ : ∃ nn, (if s = 1 then N else 0) = nn := ⟨_, rfl⟩
            have STEP := Lib.hid (fun (W : World) (hmw : RMach M W S2) (K : Nat) (hKw : K ≤ W.heap.size) (hg : M.g < K) (hc : M.cg < K) (v : Value) (hv : StackAt W K v S2.stk) (b0 b1 : Int) => rstep_any hlay hconst hL hpk hdo h19 h20 HTN.out W hmw K hKw hg hc v hv (by omega) b0 b1)
            have hty1 := doP_typed (E := M.E) hlay hconst hL hpk hdo h19 h20 HTN.out
            rw [haa, hnn] at hex STEP hty1 HRD
            obtain ⟨⟨S3, er⟩, hE⟩ : ∃ E1, doP M.E S2 s aa nn = E1 := ⟨_, rfl⟩
            have hlf := doP_keeps M.E S2 s aa nn
            rw [hE] at hex STEP hty1 hlf
            simp only at hex hty1 hlf
            have HX := Lib.hid hex
            have HT1 := Lib.hid hty1
            have HLF := Lib.hid hlf
            have HPN := Lib.hid hnx
            have HO8' := Lib.hid ho8
            have h19' := Lib.hid h19
            clear hex hty1 hlf hnx ho8 hpl hpk hdo hjz h19 h20 hE haa hnn
            generalize hnx1 : q + 1 + bearsN s = nx at *
            clear hnx1
            go_wp2_with fail
            rw [HWN.out]
            refine HRD.out.mono ?_
            rintro e u ⟨rfl, hbu⟩
            have hzu := hbu.size
            have HMU := Lib.hid ((HMN.out.below hbu).alloc (.cells #[.int .i64 q, .int .i64 nx, .int .i64 s, .int .i64 aa, .int .i64 nn] 67))
            have HFU := Lib.hid ((HFRN.out.below hbu (by have := HFRN.out.size; omega)).alloc (by have := HFRN.out.size; omega) (.cells #[.int .i64 q, .int .i64 nx, .int .i64 s, .int .i64 aa, .int .i64 nn] 67))
            have HSU := Lib.hid ((HSN.out.below hbu).below (alloc_bel u (.cells #[.int .i64 q, .int .i64 nx, .int .i64 s, .int .i64 aa, .int .i64 nn] 67)))
            have o0 : (u.alloc (.cells #[.int .i64 q, .int .i64 nx, .int .i64 s, .int .i64 aa, .int .i64 nn] 67)).cell? ⟨u.heap.size, 0, none⟩ = some (.int .i64 q) := by go_simp
            have o1 : (u.alloc (.cells #[.int .i64 q, .int .i64 nx, .int .i64 s, .int .i64 aa, .int .i64 nn] 67)).cell? ⟨u.heap.size, 1, none⟩ = some (.int .i64 nx) := by go_simp
            have o2 : (u.alloc (.cells #[.int .i64 q, .int .i64 nx, .int .i64 s, .int .i64 aa, .int .i64 nn] 67)).cell? ⟨u.heap.size, 2, none⟩ = some (.int .i64 s) := by go_simp
            have o3 : (u.alloc (.cells #[.int .i64 q, .int .i64 nx, .int .i64 s, .int .i64 aa, .int .i64 nn] 67)).cell? ⟨u.heap.size, 3, none⟩ = some (.int .i64 aa) := by go_simp
            have o4 : (u.alloc (.cells #[.int .i64 q, .int .i64 nx, .int .i64 s, .int .i64 aa, .int .i64 nn] 67)).cell? ⟨u.heap.size, 4, none⟩ = some (.int .i64 nn) := by go_simp
            have hzU : (u.alloc (.cells #[.int .i64 q, .int .i64 nx, .int .i64 s, .int .i64 aa, .int .i64 nn] 67)).heap.size = u.heap.size + 1 := by simp
            unfold opT
            clear hbu
            go_wp2_with fail
            generalize hU1 : u.alloc (.cells #[.int .i64 q, .int .i64 nx, .int .i64 s, .int .i64 aa, .int .i64 nn] 67) = U1 at *
            have hgK : M.g < U1.heap.size := HMU.out.gw
            have hcK : M.cg < U1.heap.size := HMU.out.cw
            have huU : u.heap.size < U1.heap.size := by omega
            clear hU1 hzU
            go_region_law (first
              | (refine step_append_row _ rfl _ _ 102 rfl U1.heap.size 106 i0 _ 2 16 t22 hi hz0 hz1 hz2 rfl (by decide) (.slice (some ⟨U1.heap.size, 0, none⟩) 0 0) 0 [] rfl (by repeat (first | (with_reducible refine own_dr ?_) | exact World.ownsRow_made _ #[] 0 (by first | omega | (simp; done) | (simp; omega)) (Nat.zero_le _) rfl)) _ vA S2.stk.length vc (valRow S2.stk) rfl (Row.of_own (row_keep (show U1.ownsRow w.heap.size 106 2 (.slice vA S2.stk.length vc) S2.stk.length (valRow S2.stk) from HSU.out) (by repeat (first | (with_reducible exact Below.refl _ _) | (with_reducible refine Below.drew ?_) | (with_reducible refine Below.alloc ?_ (by first | omega | (simp; done) | (simp; omega)) _))))) (valRow_one _) (by unfold maxLen; omega) (by omega) (by first | omega | (simp; done) | (simp; omega)) ?_; intro v7 w7 hown hgrow hat; have HSA := Lib.hid (step_app (S' := S2) HMU.out (fun k hk => by first | (simp [Value.ownBlock] at hk; done) | (simp [Value.ownBlock] at hk; omega) | (simp [Value.ownBlock] at hk; subst hk; simp)) (Nat.le_refl _) hgK hcK (by repeat (first | (with_reducible exact Below.refl _ _) | (with_reducible refine Below.drew ?_) | (with_reducible refine Below.alloc ?_ (by first | omega | (simp; done) | (simp; omega)) _))) hgrow ⟨rfl, rfl, rfl, rfl⟩); have HB7 := Lib.hid (show Below U1.heap.size U1 w7 from Below.grown (by repeat (first | (with_reducible exact Below.refl _ _) | (with_reducible refine Below.drew ?_) | (with_reducible refine Below.alloc ?_ (by first | omega | (simp; done) | (simp; omega)) _))) hgrow (by first | omega | (simp; done) | (simp; omega)) (by intro k hk; first | (simp [Value.ownBlock] at hk; done) | (simp [Value.ownBlock] at hk; omega) | (simp [Value.ownBlock] at hk; subst hk; simp))); have HO7 := Lib.hid (show StackAt w7 U1.heap.size v7 S2.stk by unfold StackAt; simpa using hown); have p0 := (dcell HB7.out huU 0).trans o0; have p1 := (dcell HB7.out huU 1).trans o1; have p2 := (dcell HB7.out huU 2).trans o2; have p3 := (dcell HB7.out huU 3).trans o3; have p4 := (dcell HB7.out huU 4).trans o4; clear hown hgrow hat)
              | (go_simp; go_at_call 56; refine (STEP.out _ HSA.out.1 U1.heap.size HB7.out.size hgK hcK v7 HO7.out _ _).mono ?_; rintro e w8 ⟨v8, rfl, hs8, hm8, hf8⟩; have HS8 := Lib.hid hs8; have HM8 := Lib.hid hm8; have HF8 := Lib.hid (HFU.out.trans ((HSA.out.2.trans hf8).mono (HFU.out.size))); clear hs8 hm8 hf8))
            all_goals
              clear o0 o1 o2 o3 o4 p0 p1 p2 p3 p4
              by_cases her : er = 0
              · subst her
                have HST := Lib.hid (own_mono8 (HS8.out rfl) HFU.out.size)
                go_wp2_with fail
                go_roundg (gk - 1)
                case measure => have := HG.out; omega
                case rel =>
                  have R1 : RunRel M cells fn w b f0 R (gk - 1) v8 (.int .i64 nx) w8 :=
                    ⟨S3, nx, out, rfl, HM8.out, HF8.out, HST.out, HPN.out, (HT1.out.resolve_right (by omega)).2, by have := HL2.out; have := HGK.out; have h5 : S3.left = S2.left := HLF.out.left; omega, by have := HLE.out; have := HGK.out; omega, HO8'.out, by rw [HGK.out]; have hh := HX.out; simpa using hh⟩
                  first
                    | exact R1
                    | ((repeat apply Exists.intro); exact ⟨R1, rfl⟩)
              · have her' : (er == 0) = false := by simpa using her
                have her2 : (er != 0) = true := by simpa using her
                have HX2 := Lib.hid (show (S3, er) = R by have := HX.out; rwa [if_neg her] at this)
                clear her
                go_wp2_with fail
                go_ret
                rw [← HX2.out]
                exact ⟨rfl, HM8.out, HF8.out⟩
end Go.Proofs.YtngobbbinacomaaDoor
