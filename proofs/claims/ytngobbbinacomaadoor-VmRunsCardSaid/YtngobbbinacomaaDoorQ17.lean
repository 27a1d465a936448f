/- Chapter 14: the machine's loop, and calls. -/
import Derived.Test.YtngobbbinacomaaDoorQ16
import Derived.Deep.DeepCutAuto
import Derived.Deep.LoopGhost
import Derived.Outline
import Derived.Deep.CutBlock
namespace Go.Proofs.YtngobbbinacomaaDoor
open Go.RowKit Go.Proofs.YtngobbbinacomaaDoor.c11 Go.Proofs.YtngobbbinacomaaDoor.c10
set_option linter.unusedVariables false
set_option linter.unusedSimpArgs false
attribute [local go_sem ↓] Go.wp_at_zero Go.wp_at_succ
/-- A function's bytes, as they lie. -/
structure CodeAt (M : Who) (w : World) (A : Option Addr) (cap : Nat) (b : List Int) : Prop where
  row : RowX w M.X 1 A b.length (b.map (Value.int .u8))
  le : b.length ≤ cap
  max : cap ≤ 9223372036854775807
  len : b.length ≤ 4611686018427387904
  bytes : ∀ x ∈ b, 0 ≤ x ∧ x < 256
theorem CodeAt.keep {M : Who} {w w' : World} {K : Nat} {A : Option Addr} {cap : Nat} {b : List Int} (h : CodeAt M w A cap b) (hk : M.K0 ≤ K) (f : Fr M K w w') : CodeAt M w' A cap b :=
  ⟨h.row.keep fun x hx => f.block x (Nat.lt_of_lt_of_le hx.1 hk) hx.2.1 hx.2.2, h.le, h.max, h.len, h.bytes⟩
theorem CodeAt.came {M : Who} {w : World} {A : Option Addr} {cap : Nat} {b : List Int} (h : CodeAt M w A cap b) (hK : M.K0 ≤ w.heap.size) : Came w A b.length cap fun i => .int .u8 (b.getD i 0) := by
  refine ⟨h.le, h.max, fun h0 => ?_⟩
  obtain ⟨x, off, hA, hX, hc⟩ := h.row.2 h0
  refine ⟨x, off, hA, Nat.lt_of_lt_of_le hX.1 hK, fun i hi => ?_⟩
  exact hc i _ (by simp [List.getD_eq_getElem?_getD, List.getElem?_eq_getElem hi])
theorem Stat.codeAt {M : Who} {w : World} (h : Stat w M.X M.E) {i : Nat} {b : List Int} (hb : M.E.funcs[i]? = some b) : CodeAt M w (M.E.Fv i) (M.E.Fl i) b := by
  obtain ⟨h1, h2, h3, h4, h5⟩ := h.code i b hb
  exact ⟨h1, h2, h3, h4, h5⟩
/-- Blocks are run as they should, or there is none. -/
def Blocks (M : Who) : Prop := (∀ b ∈ M.E.funcs, ∀ x ∈ b, x ≠ 27) ∨ ∀ K S a, 0 ≤ a → a ≤ 1000000 → BlockAt M K S a
/-- A function's contract, with so much left. -/
def FunOk (M : Who) (f : Nat) : Prop := ∀ (K : Nat) (w : World) (sv kv : Value) (S : St) (b : List Int) (A : Option Addr) (cap : Nat), Mach M w K sv kv S → CodeAt M w A cap b → b ∈ M.E.funcs → S.left < f → S.stk.length ≤ 2 * S.used →
  Calls Tryd.prog 54 #[.pointer (some ⟨M.g, 0, none⟩), .slice A b.length cap] w fun e w' => e = .returned (.int .i64 (execP M.E f b 0 S).2) ∧ Left M K sv kv w w' (execP M.E f b 0 S).1
theorem Mach.regs {M : Who} {w : World} {K : Nat} {sv kv sv' kv' : Value} {S S' : St} (h : Mach M w K sv kv S) {K' : Nat} (hg : M.g < K') (hk0 : M.K0 ≤ K') (hw : K' ≤ w.heap.size) (hC : ∀ b, M.C.ownBlock = some b → b < K') (hc : S'.cells = S.cells) (hm : (S'.o0 = S.o0 ∧ S'.o1 = S.o1 ∧ S'.o2 = S.o2 ∧ S'.o3 = S.o3) ∧ S'.left = S.left ∧ S'.used = S.used)
    (hs : w.ownsRow K' 3 1 sv' S'.stk.length (S'.stk.map fun p => Value.int .i64 p.2)) (hk : w.ownsRow K' 3 1 kv' S'.stk.length (S'.stk.map fun p => Value.int .i64 p.1)) (ha : sv'.ownBlock = none ∨ sv'.ownBlock ≠ kv'.ownBlock) (hh : S'.stk.length ≤ 1000000000)
    (hsg : sv'.ownBlock ≠ some M.g) (hkg : kv'.ownBlock ≠ some M.g) :
    Mach M ((w.setCell ⟨M.g, 16, none⟩ sv').setCell ⟨M.g, 17, none⟩ kv') K' sv' kv' S' := by
  have hb := blk_set (blk_set h.blk 16 sv') 17 kv'
  have e : ((mcells M.E M.C sv kv S).setIfInBounds 16 sv').setIfInBounds 17 kv' = mcells M.E M.C sv' kv' S' := by
    obtain ⟨⟨h0, h1, h2, h3⟩, h4, h5⟩ := hm
    simp [mcells, h0, h1, h2, h3, h4, h5]
  rw [e] at hb
  refine ⟨hb, hg, hk0, by simpa [World.setCell] using hw, ?_, fun b hb' => ⟨hC b hb', (h.cK b hb').2⟩, own_setFar (own_setFar hs hsg _) hsg _, own_setFar (own_setFar hk hkg _) hkg _, ha, ?_, by rw [hm.2.1, hm.2.2]; exact h.bud, hh⟩
  · rw [hc]
    exact own_setFar (own_setFar h.cells h.c_g _) h.c_g _
  · exact h.stat.keep fun b hX => (Below.heap_setCell _ ⟨M.g, 17, none⟩ _ b hX.2.1).trans (Below.heap_setCell _ ⟨M.g, 16, none⟩ _ b hX.2.1)
theorem own_fr {w w' : World} {base : Nat} {e : TypeId} {size n : Nat} {v : Value} {xs : List Value} (h : w.ownsRow base e size v n xs) (hb : ∀ b, v.ownBlock = some b → w'.heap[b]? = w.heap[b]?) : w'.ownsRow base e size v n xs := by
  refine ⟨h.1, ?_⟩
  rcases h.2 with hn | ⟨g, cap, cur, rfl, hg, hgg, rest⟩
  · exact .inl hn
  · exact .inr ⟨g, cap, cur, rfl, hg, (hb g rfl).trans hgg, rest⟩
/-- A call's outcome. -/
def callP (E : Env) (f : Nat) (S : St) (a : Int) : St × Int :=
  if a < E.funcs.length then ({ (execP E f (E.funcs.getD a.toNat []) 0 { S with stk := [] }).1 with stk := S.stk }, (execP E f (E.funcs.getD a.toNat []) 0 { S with stk := [] }).2) else (S, 20)
set_option maxHeartbeats 4000000 in
set_option maxRecDepth 100000 in
theorem call_any (M : Who) (f : Nat) (hf : FunOk M f) (K : Nat) (S : St) (j : Nat) (hl : S.left < f) : CallAt M K S j (callP M.E f S j) := by
  intro w sv kv h
  obtain ⟨As, cs, hsv, _, _⟩ := own_slice h.stk
  obtain ⟨Ak, ck, hkv, _, _⟩ := own_slice h.knd
  subst hsv hkv
  have m7 : w.cell? ⟨M.g, 7, none⟩ = some (.slice M.E.Fa M.E.funcs.length M.E.Fc) := h.cell 7
  have hfc := h.stat.fc
  have hlen : (M.E.funcs.length : Int) ≤ 9223372036854775807 := by omega
  have hgw := h.gw
  have hj0 : ¬ (j : Int) < 0 := by omega
  by_cases hj : (j : Int) < M.E.funcs.length
  · have hj' : j < M.E.funcs.length := by omega
    obtain ⟨b, hb⟩ : ∃ b, M.E.funcs[j]? = some b := ⟨_, List.getElem?_eq_getElem hj'⟩
    have hcall : callP M.E f S j = ({ (execP M.E f b 0 { S with stk := [] }).1 with stk := S.stk }, (execP M.E f b 0 { S with stk := [] }).2) := by
      simp only [callP, if_pos hj]
      rw [show (j : Int).toNat = j by omega, show M.E.funcs.getD j [] = b by rw [List.getD_eq_getElem?_getD, hb]; rfl]
    obtain ⟨R, hR⟩ : ∃ R, execP M.E f b 0 { S with stk := [] } = R := ⟨_, rfl⟩
    rw [hR] at hcall
    rw [hcall]
    have HR := Lib.hid hR
    clear hR
    obtain ⟨x, off, hA, hX, hc⟩ := h.stat.funcs.2 (by omega)
    have vj : w.cell? ⟨x, off + j, none⟩ = some (.slice (M.E.Fv j) b.length (M.E.Fl j)) := by
      refine hc j _ ?_
      rw [List.getElem?_map, List.getElem?_range hj']
      simp [List.getD_eq_getElem?_getD, hb]
    have hxw : x < w.heap.size := Nat.lt_of_lt_of_le hX.1 (Nat.le_trans h.k0 h.kw)
    have hxg : ¬ x = M.g := hX.2.1
    have hxg' : ¬ M.g = x := fun e => hxg e.symm
    have m16 : w.cell? ⟨M.g, 16, none⟩ = some (.slice As S.stk.length cs) := h.cell 16
    have m17 : w.cell? ⟨M.g, 17, none⟩ = some (.slice Ak S.stk.length ck) := h.cell 17
    have f16 := h.frozen 16
    have f17 := h.frozen 17
    rw [hA] at m7
    have HM := Lib.hid h
    have HCODE := Lib.hid (h.stat.codeAt hb)
    have HBM := Lib.hid (List.mem_of_getElem? hb)
    have HF := Lib.hid hf
    have HL := Lib.hid hl
    clear h hf hc hA hX hcall hb hfc hl
    go_enter Tryd.func39, Tryd.ntmps39
    go_wp2_with fail
    go_quiet (fail)
    go_wp2_with fail
    refine (HF.out w.heap.size _ (.slice none 0 0) (.slice none 0 0) { S with stk := [] } b _ _ (Mach.regs (HM.out.drewN _) (S' := { S with stk := [] }) hgw (Nat.le_trans HM.out.k0 HM.out.kw) (Nat.le_refl _) (fun x hx => Nat.lt_of_lt_of_le (HM.out.cK x hx).1 HM.out.kw) rfl ⟨⟨rfl, rfl, rfl, rfl⟩, rfl, rfl⟩ (World.ownsRow_nil _ _ _ _) (World.ownsRow_nil _ _ _ _) (.inl rfl) (by simp) (by simp [Value.ownBlock]) (by simp [Value.ownBlock]))
      (HCODE.out.keep (K := w.heap.size) (Nat.le_trans HM.out.k0 HM.out.kw) ((((Fr.refl M w.heap.size w).drewN _).setG 16 _).setG 17 _)) HBM.out HL.out (by simp)).mono ?_
    rintro e w2 ⟨he, hl⟩
    rw [HR.out] at he hl
    subst he
    obtain ⟨sv2, kv2, hm2, fr2, far2⟩ := hl
    have n16 : w2.cell? ⟨M.g, 16, none⟩ = some sv2 := hm2.cell 16
    have n17 : w2.cell? ⟨M.g, 17, none⟩ = some kv2 := hm2.cell 17
    have g16 := hm2.frozen 16
    have g17 := hm2.frozen 17
    have hfr := ((((Fr.refl M w.heap.size w).drewN _).setG 16 _).setG 17 _).trans fr2
    have hzw := hfr.size
    have hsb : ∀ x, (Value.slice As S.stk.length cs).ownBlock = some x → w2.heap[x]? = w.heap[x]? := fun x hx => hfr.block x (HM.out.stk.lt x hx).2 (fun e => HM.out.stk_g (e ▸ hx)) (fun e => by
      rcases HM.out.c_stk with h0 | h0
      · rw [h0] at e; cases e
      · exact h0 (e.trans hx.symm))
    have hkb : ∀ x, (Value.slice Ak S.stk.length ck).ownBlock = some x → w2.heap[x]? = w.heap[x]? := fun x hx => hfr.block x (HM.out.knd.lt x hx).2 (fun e => HM.out.knd_g (e ▸ hx)) (fun e => by
      rcases HM.out.c_knd with h0 | h0
      · rw [h0] at e; cases e
      · exact h0 (e.trans hx.symm))
    have hreg := Mach.regs hm2 (S' := { R.1 with stk := S.stk }) (sv' := .slice As S.stk.length cs) (kv' := .slice Ak S.stk.length ck) HM.out.gK HM.out.k0 (Nat.le_trans HM.out.kw hzw) (fun x hx => (HM.out.cK x hx).1) rfl ⟨⟨rfl, rfl, rfl, rfl⟩, rfl, rfl⟩ (own_fr HM.out.stk hsb) (own_fr HM.out.knd hkb) HM.out.apart HM.out.hi HM.out.stk_g HM.out.knd_g
    have HL2 := Lib.hid (show Left M K (.slice As S.stk.length cs) (.slice Ak S.stk.length ck) w ((w2.setCell ⟨M.g, 16, none⟩ (.slice As S.stk.length cs)).setCell ⟨M.g, 17, none⟩ (.slice Ak S.stk.length ck)) { R.1 with stk := S.stk } from
      ⟨_, _, hreg, ((hfr.mono HM.out.kw).setG 16 _).setG 17 _, fun x hx fx => ⟨(Below.heap_setCell _ ⟨M.g, 17, none⟩ _ x fx.g).trans ((Below.heap_setCell _ ⟨M.g, 16, none⟩ _ x fx.g).trans (hfr.block x hx fx.g fx.c)), fx⟩⟩)
    clear hm2 fr2 far2 hfr hsb hkb hreg
    go_wp2
    go_ret
    exact ⟨rfl, HL2.out⟩
  · rw [show callP M.E f S j = (S, 20) by simp [callP, hj]]
    have hj' : decide (M.E.funcs.length ≤ j) = true := by simp; omega
    have HL2 := Lib.hid h.left
    clear h hf hfc hj
    go_enter Tryd.func39, Tryd.ntmps39
    go_wp2
    go_ret
    exact ⟨rfl, HL2.out⟩
end Go.Proofs.YtngobbbinacomaaDoor

/- Chapter 14: the machine's loop. -/
namespace Go.Proofs.YtngobbbinacomaaDoor
open Go.RowKit Go.Proofs.YtngobbbinacomaaDoor.c11 Go.Proofs.YtngobbbinacomaaDoor.c10
set_option linter.unusedVariables false
set_option linter.unusedSimpArgs false
attribute [local go_sem ↓] Go.wp_at_zero Go.wp_at_succ
/-- What the loop's rounds hold. -/
def FunRel (M : Who) (K : Nat) (w : World) (sv kv : Value) (b : List Int) (f : Nat) (R : St × Int) (ff : Nat) (p : Value) (wr : World) : Prop :=
  ∃ (S : St) (sv' kv' : Value) (q : Int), p = .int .i64 q ∧ Mach M wr K sv' kv' S ∧ Step M K w sv kv wr sv' kv' ∧ S.left < ff ∧ ff ≤ f ∧ S.stk.length ≤ 2 * S.used ∧ execP M.E ff b q S = R
/-- An instruction counted. -/
theorem Mach.count {M : Who} {w : World} {K : Nat} {sv kv : Value} {S : St} (h : Mach M w K sv kv S) (h0 : S.left ≠ 0) :
    Mach M ((w.setCell ⟨M.g, 14, none⟩ (.int .i64 ((S.left : Int) - 1))).setCell ⟨M.g, 15, none⟩ (.int .i64 ((S.used : Int) + 1))) K sv kv { S with left := S.left - 1, used := S.used + 1 } ∧
      Step M K w sv kv ((w.setCell ⟨M.g, 14, none⟩ (.int .i64 ((S.left : Int) - 1))).setCell ⟨M.g, 15, none⟩ (.int .i64 ((S.used : Int) + 1))) sv kv := by
  have hfr : Fr M K w ((w.setCell ⟨M.g, 14, none⟩ (.int .i64 ((S.left : Int) - 1))).setCell ⟨M.g, 15, none⟩ (.int .i64 ((S.used : Int) + 1))) := ((Fr.refl M K w).setG _ _).setG _ _
  have hb := blk_set (blk_set h.blk 14 (.int .i64 ((S.left : Int) - 1))) 15 (.int .i64 ((S.used : Int) + 1))
  refine ⟨h.fr hfr ?_ (own_setFar (own_setFar h.cells h.c_g _) h.c_g _) (own_setFar (own_setFar h.stk h.stk_g _) h.stk_g _) (own_setFar (own_setFar h.knd h.knd_g _) h.knd_g _) h.apart ?_ h.hi, hfr, fun b hb f => ⟨(Below.heap_setCell _ ⟨M.g, 15, none⟩ _ b f.g).trans (Below.heap_setCell w ⟨M.g, 14, none⟩ _ b f.g), f⟩⟩
  · rw [hb]
    congr 2
    simp [mcells]
    omega
  · have := h.bud
    show S.used + 1 + (S.left - 1) ≤ _
    omega
set_option maxHeartbeats 8000000 in
set_option maxRecDepth 100000 in
theorem fun_any (M : Who) (hE : M.E.Ok) (hB : Blocks M) : ∀ f, FunOk M f := by
  intro f0
  induction f0 using Nat.strongRecOn with
  | _ f0 IH =>
  intro K w sv kv S b A cap h hc hbm hl hst
  have hmf : ∀ (fn : Fn) (first cp : Array Value) (w : World), (Instr.makeFunc fn first cp).run Tryd.prog w = .ok (.func fn first cp) w := fun _ _ _ _ => rfl
  obtain ⟨R, hR⟩ : ∃ R, execP M.E f0 b 0 S = R := ⟨_, rfl⟩
  rw [hR]
  have HR := Lib.hid hR
  have HM := Lib.hid h
  have HC := Lib.hid hc
  have HB := Lib.hid hB
  have HBM := Lib.hid hbm
  have HIH := Lib.hid IH
  have HL := Lib.hid hl
  have HST := Lib.hid hst
  clear hR h hc hB IH hbm hl hst
  go_enter Tryd.func54, Tryd.ntmps54
  go_wp2_with fail
  go_loopg [6] f0 (fun ff p wr => FunRel M K w sv kv b f0 R ff p wr)
  case atStart => exact ⟨S, sv, kv, 0, rfl, HM.out, Step.refl, HL.out, Nat.le_refl _, HST.out, HR.out⟩
  case round =>
    obtain ⟨S1, sv1, kv1, q, rfl, hm, st, hl1, hle, hst1, hex⟩ := hrel
    obtain ⟨f', hg⟩ : ∃ f', gk = f' + 1 := ⟨gk - 1, by omega⟩
    have hgk : gk - 1 = f' := by omega
    rw [hg, execP] at hex
    have m14 : wr.cell? ⟨M.g, 14, none⟩ = some (.int .i64 S1.left) := hm.cell 14
    have hbud := hm.bud
    have HLT := Lib.hid (show S1.left < f' + 1 by omega)
    have HLE := Lib.hid (show f' + 1 ≤ f0 by omega)
    have HG := Lib.hid hg
    have HGK := Lib.hid hgk
    clear hl1 hle hg hgk
    by_cases h0 : S1.left = 0
    · rw [if_pos h0] at hex
      rw [h0] at m14
      have HL2 := Lib.hid (st.mach hm)
      have HX := Lib.hid hex
      clear hm st hex h0 hst1 hbud
      go_wp2
      go_ret
      rw [← HX.out]
      exact ⟨rfl, HL2.out⟩
    · rw [if_neg h0] at hex
      have h0' : ((S1.left : Int) == 0) = false := by simpa using h0
      have hK0 : M.K0 ≤ wr.heap.size := Nat.le_trans hm.k0 hm.kw
      have hcd := HC.out.keep hm.k0 st.fr
      obtain ⟨⟨⟨r0, r1, rs, ra, rn⟩, er⟩, hr⟩ : ∃ r, rdL b q = r := ⟨_, rfl⟩
      have hrb := rdL_bytes HC.out.bytes q
      have hrs := fun x (hx : x ≠ 0) (hh : rs = x) => rdL_sign (b := b) (p := q) (x := x) (by rw [hr]; exact hh) hx
      have RD := read_any A b.length cap (fun i => b.getD i 0) q wr (hcd.came hK0) (by have := HC.out.len; omega) (fun i hi => HC.out.bytes _ (by rw [List.getD_eq_getElem?_getD, List.getElem?_eq_getElem hi]; exact List.getElem_mem hi))
      rw [show rd (fun i => b.getD i 0) b.length q = ((r0, r1, rs, ra, rn), er) from hr] at RD
      simp only [rdV, opT] at RD
      rw [hr] at hex hrb
      simp only at hex hrb
      have HRS := Lib.hid hrs
      have HRD := Lib.hid RD
      have HX := Lib.hid hex
      have HM1 := Lib.hid hm
      have ST1 := Lib.hid st
      have H0 := Lib.hid h0
      have HST1 := Lib.hid hst1
      have HBUD := Lib.hid hbud
      have hgw := hm.gw
      clear RD hr hex hm st hcd hrs h0 hst1
      go_wp2_with fail
      refine HRD.out.mono ?_
      rintro e u ⟨rfl, hbu⟩
      by_cases her : er = 0
      · subst her
        have hx := HX.out
        rw [if_neg (by decide)] at hx
        have hmu := HM1.out.below hbu
        have hsu := ST1.out.below HM.out.kw hbu
        have hgu := hmu.gw
        have gn : ¬ u.heap.size = M.g := by omega
        have gm : ¬ M.g = u.heap.size := by omega
        have uu14 : u.cell? ⟨M.g, 14, none⟩ = some (.int .i64 S1.left) := hmu.cell 14
        have uu15 : u.cell? ⟨M.g, 15, none⟩ = some (.int .i64 S1.used) := hmu.cell 15
        have v14 := hmu.frozen 14
        have v15 := hmu.frozen 15
        have hb1 : (S1.left : Int) ≤ 1000000 := by omega
        have hb2 : (S1.used : Int) ≤ 1000000 := by omega
        have hb0 : (0 : Int) ≤ S1.left := by omega
        have hb3 : (0 : Int) ≤ S1.used := by omega
        have HMU := Lib.hid hmu
        have HSU := Lib.hid hsu
        have HHX := Lib.hid hx
        have HFN := Lib.hid (hmu.far_new (b := u.heap.size) (Nat.le_refl _))
        have HRA := Lib.hid hrb
        clear hbu hx hmu hsu hbud hrb m14 HRD
        go_upto_region 8 with fail
        go_cut [] (fun wx => Mach M wx K sv1 kv1 { S1 with left := S1.left - 1, used := S1.used + 1 } ∧ Step M K u sv1 kv1 wx sv1 kv1 ∧ u.heap.size < wx.heap.size ∧ (∀ o, wx.cell? ⟨u.heap.size, o, none⟩ = (u.alloc (.cells #[.int .i64 r0, .int .i64 r1, .int .i64 rs, .int .i64 ra, .int .i64 rn] 127)).cell? ⟨u.heap.size, o, none⟩))
        case first =>
          go_region
          all_goals (try go_wp2_with fail)
          all_goals go_meet
          all_goals (have hcnt := HMU.out.count H0.out)
          all_goals (refine ⟨hcnt.1.below (((Below.refl _ _).alloc (Nat.le_refl _) _).drew), hcnt.2.below HMU.out.kw (((Below.refl _ _).alloc (Nat.le_refl _) _).drew), by simp [World.setCell], fun o => ?_⟩)
          all_goals
            have hs : ((u.setCell ⟨M.g, 14, none⟩ (.int .i64 ((S1.left : Int) - 1))).setCell ⟨M.g, 15, none⟩ (.int .i64 ((S1.used : Int) + 1))).heap.size = u.heap.size := by simp [World.setCell]
            have e1 := heap_alloc_new ((u.setCell ⟨M.g, 14, none⟩ (.int .i64 ((S1.left : Int) - 1))).setCell ⟨M.g, 15, none⟩ (.int .i64 ((S1.used : Int) + 1))) (.cells #[.int .i64 r0, .int .i64 r1, .int .i64 rs, .int .i64 ra, .int .i64 rn] 127)
            rw [hs] at e1
            exact World.cell?_of_block (a := ⟨u.heap.size, o, none⟩) (e1.trans (heap_alloc_new u _).symm)
        case rest =>
        obtain ⟨hm2, st2, hz2, hop⟩ := hcut
        generalize hwd : wc = wd at *
        have hst2 : Step M K w sv kv wd sv1 kv1 := HSU.out.trans st2
        have p1 : wd.cell? ⟨u.heap.size, 1, none⟩ = some (.int .i64 r1) := (hop 1).trans (by go_simp)
        have p2 : wd.cell? ⟨u.heap.size, 2, none⟩ = some (.int .i64 rs) := (hop 2).trans (by go_simp)
        have p3 : wd.cell? ⟨u.heap.size, 3, none⟩ = some (.int .i64 ra) := (hop 3).trans (by go_simp)
        have p0 : wd.cell? ⟨u.heap.size, 0, none⟩ = some (.int .i64 r0) := (hop 0).trans (by go_simp)
        have p4 : wd.cell? ⟨u.heap.size, 4, none⟩ = some (.int .i64 rn) := (hop 4).trans (by go_simp)
        have HM2 := Lib.hid hm2
        have ST2 := Lib.hid hst2
        have HF2 := Lib.hid (fun (h : u.heap.size < wd.heap.size) (hf : Far M u.heap.size sv1 kv1) => hf)
        obtain ⟨S2, hS2⟩ : ∃ S2 : St, ({ S1 with left := S1.left - 1, used := S1.used + 1 } : St) = S2 := ⟨_, rfl⟩
        have hl2 : S2.left < f' := by have := HLT.out; have := H0.out; rw [← hS2]; show S1.left - 1 < f'; omega
        have hu2 : S2.stk.length + 2 ≤ 2 * S2.used := by have := HST1.out; rw [← hS2]; show S1.stk.length + 2 ≤ 2 * (S1.used + 1); omega
        rw [hS2] at HM2
        have hx := HHX.out
        rw [hS2] at hx
        have hstk : S2.stk = S1.stk := by rw [← hS2]
        have hhi : S2.stk.length ≤ 999998000 := by have := HM2.out.bud; omega
        have HS2 := Lib.hid hS2
        have st2s := Lib.hid hz2
        have HX2 := Lib.hid hx
        have HL2 := Lib.hid hl2
        have HU2 := Lib.hid hu2
        have HHI := Lib.hid hhi
        clear hwd hm2 st2 hop hst2 hx hl2 hu2 hhi hb0 hb1 hb2 hb3 uu14 uu15 v14 v15 hS2
        by_cases hs0 : rs = 0
        · subst hs0
          have hx := HX2.out
          rw [if_pos rfl] at hx
          have HX3 := Lib.hid hx
          have HL3 := Lib.hid (ST2.out.mach HM2.out)
          clear hx
          go_wp2
          go_ret
          rw [← HX3.out]
          exact ⟨rfl, HL3.out⟩
        have hx := HX2.out
        rw [if_neg hs0] at hx
        have q0 : (rs == 0) = false := by simpa using hs0
        by_cases h18 : rs = 18
        · subst h18
          rw [if_pos rfl] at hx
          have HX3 := Lib.hid hx
          clear hx
          go_wp2
          go_roundg (gk - 1)
          case measure => have := HG.out; omega
          case rel =>
            have R1 : FunRel M K w sv kv b f0 R (gk - 1) (.int .i64 ra) wd := ⟨S2, sv1, kv1, ra, rfl, HM2.out, ST2.out, by have := HL2.out; have := HGK.out; omega, by have := HLE.out; have := HGK.out; omega, by have := HU2.out; omega, by rw [HGK.out]; exact HX3.out⟩
            first
              | exact R1
              | ((repeat apply Exists.intro); exact ⟨R1, rfl⟩)
        rw [if_neg h18] at hx
        have q18 : (rs == 18) = false := by simpa using h18
        by_cases h19 : rs = 19
        · subst h19
          rw [if_pos rfl] at hx
          have P0 := Lib.hid (pop_any M wd K sv1 kv1 S2 HM2.out)
          have hpk := popS_keeps S2
          obtain ⟨⟨⟨k1, x1⟩, S3⟩, hr3⟩ : ∃ r, popS S2 = r := ⟨_, rfl⟩
          rw [hr3] at P0 hpk hx
          simp only at hx hpk
          have HX3 := Lib.hid hx
          have HPK := Lib.hid hpk
          have HFU := Lib.hid (HF2.out (by have := st2s.out; omega) HFN.out)
          clear hx hpk hr3 q0 q18 hs0 h18
          by_cases hx1 : x1 = 0
          · subst hx1
            go_wp2_with fail
            refine P0.out.mono ?_
            rintro e w3 ⟨rfl, hl3⟩
            obtain ⟨sv3, kv3, hm3, st3⟩ := hl3.step
            have p3' : w3.cell? ⟨u.heap.size, 3, none⟩ = some (.int .i64 ra) := (st3.cell hz2 HFU.out 3).trans p3
            have HM3 := Lib.hid hm3
            have ST3 := Lib.hid (ST2.out.trans st3)
            clear hl3 hm3 st3
            go_wp2
            go_roundg (gk - 1)
            case measure => have := HG.out; omega
            case rel =>
              have R1 : FunRel M K w sv kv b f0 R (gk - 1) (.int .i64 ra) w3 := ⟨S3, sv3, kv3, ra, rfl, HM3.out, ST3.out, by have := HL2.out; have := HGK.out; have := HPK.out; omega, by have := HLE.out; have := HGK.out; omega, by have := HU2.out; have := HPK.out; omega, by rw [HGK.out]; have := HX3.out; simpa using this⟩
              first
                | exact R1
                | ((repeat apply Exists.intro); exact ⟨R1, rfl⟩)
          · have hx1' : (x1 == 0) = false := by simpa using hx1
            go_wp2_with fail
            refine P0.out.mono ?_
            rintro e w3 ⟨rfl, hl3⟩
            obtain ⟨sv3, kv3, hm3, st3⟩ := hl3.step
            have HM3 := Lib.hid hm3
            have ST3 := Lib.hid (ST2.out.trans st3)
            have HN1 := Lib.hid hx1
            clear hl3 hm3 st3 hx1
            go_wp2
            go_roundg (gk - 1)
            case measure => have := HG.out; omega
            case rel =>
              have R1 : FunRel M K w sv kv b f0 R (gk - 1) (.int .i64 r1) w3 := ⟨S3, sv3, kv3, r1, rfl, HM3.out, ST3.out, by have := HL2.out; have := HGK.out; have := HPK.out; omega, by have := HLE.out; have := HGK.out; omega, by have := HU2.out; have := HPK.out; omega, by rw [HGK.out]; have := HX3.out; simpa [HN1.out] using this⟩
              first
                | exact R1
                | ((repeat apply Exists.intro); exact ⟨R1, rfl⟩)
        rw [if_neg h19] at hx
        have q19 : (rs == 19) = false := by simpa using h19
        obtain ⟨j, hj⟩ : ∃ j : Nat, ra = j := ⟨ra.toNat, by have := HRA.out; omega⟩
        subst hj
        have hj2 : (j : Int) ≤ 1000000 := by have := HRA.out; omega
        -- what is done: a call, or something else
        obtain ⟨D, hD, hDk, hDx⟩ : ∃ D : St × Int, (Calls Tryd.prog 73 #[.pointer (some ⟨M.g, 0, none⟩), .agg #[.int .i64 r0, .int .i64 r1, .int .i64 rs, .int .i64 (j : Int), .int .i64 rn]] wd fun e w' => e = .returned (.int .i64 D.2) ∧ Left M K sv1 kv1 wd w' D.1) ∧
            (D.1.left ≤ S2.left ∧ D.1.stk.length ≤ 2 * D.1.used) ∧ (if D.2 = 0 then execP M.E f' b r1 D.1 else D) = R := by
          by_cases h20 : rs = 20
          · subst h20
            rw [if_pos rfl] at hx
            have hcal := do_call M wd K sv1 kv1 S2 HM2.out r0 r1 rn j (callP M.E f' S2 j) (call_any M f' (HIH.out f' (by have := HLE.out; omega)) K S2 j HL2.out)
            have hex := execP_left M.E f' (M.E.funcs.getD (j : Int).toNat []) 0 { S2 with stk := [] }
            refine ⟨callP M.E f' S2 j, hcal, ?_, ?_⟩
            · unfold callP
              split
              · generalize execP M.E f' (M.E.funcs.getD (j : Int).toNat []) 0 { S2 with stk := [] } = A at *
                have h1 : A.1.used + A.1.left = S2.used + S2.left := hex.2
                have h2 : A.1.left ≤ S2.left := hex.1
                have h3 := HU2.out
                exact ⟨h2, show S2.stk.length ≤ 2 * A.1.used by omega⟩
              · exact ⟨Nat.le_refl _, by have h3 := HU2.out; show S2.stk.length ≤ 2 * S2.used; omega⟩
            · rw [← hx]
              unfold callP
              have e5 : S1.stk = S2.stk := hstk.symm
              have e6 : ({ S1 with left := S1.left - 1, used := S1.used + 1, stk := [] } : St) = { S2 with stk := [] } := by rw [← HS2.out]
              rw [e5, e6]
              by_cases hjl : (j : Int) < M.E.funcs.length
              · rw [if_pos hjl, if_pos hjl]
              · rw [if_neg hjl, if_neg hjl]
                simp
          · rw [if_neg h20] at hx
            have hk := doP_keeps M.E S2 rs j rn
            refine ⟨doP M.E S2 rs j rn, do_any M wd K sv1 kv1 S2 HM2.out r0 r1 rn j hj2 rs hE HHI.out (fun h27 => ?_) h20, ⟨Nat.le_of_eq hk.left, by have h1 := hk.stk; have h2 := hk.used; have h3 := HU2.out; omega⟩, hx⟩
            rcases HB.out with hno | hall
            · exact absurd h27 (hno b HBM.out rs (HRS.out rs hs0 rfl))
            · exact hall K S2 j (by omega) hj2
        have HD := Lib.hid hD
        have HDK := Lib.hid hDk
        have HDX := Lib.hid hDx
        clear hD hDk hDx hx hstk hs0 h18 h19
        obtain ⟨S3, er3⟩ := D
        simp only at HD HDK HDX
        by_cases he3 : er3 = 0
        · subst he3
          go_wp2_with fail
          refine HD.out.mono ?_
          rintro e w3 ⟨rfl, hl3⟩
          obtain ⟨sv3, kv3, hm3, st3⟩ := hl3.step
          have HM3 := Lib.hid hm3
          have ST3 := Lib.hid (ST2.out.trans st3)
          clear hl3 hm3 st3
          go_wp2
          go_roundg (gk - 1)
          case measure => have := HG.out; omega
          case rel =>
            have R1 : FunRel M K w sv kv b f0 R (gk - 1) (.int .i64 r1) w3 := ⟨S3, sv3, kv3, r1, rfl, HM3.out, ST3.out, by have := HL2.out; have := HGK.out; have := HDK.out; omega, by have := HLE.out; have := HGK.out; omega, by have := HDK.out; omega, by rw [HGK.out]; have := HDX.out; simpa using this⟩
            first
              | exact R1
              | ((repeat apply Exists.intro); exact ⟨R1, rfl⟩)
        · have he3' : (er3 == 0) = false := by simpa using he3
          have he4' : (er3 != 0) = true := by simpa using he3
          have HX4 := Lib.hid (show (S3, er3) = R by have := HDX.out; rwa [if_neg he3] at this)
          clear he3
          go_wp2_with fail
          refine HD.out.mono ?_
          rintro e w3 ⟨rfl, hl3⟩
          have HL3 := Lib.hid (ST2.out.left hl3)
          clear hl3
          go_wp2
          go_ret
          rw [← HX4.out]
          exact ⟨rfl, HL3.out⟩
      · have her' : (er == 0) = false := by simpa using her
        have her2 : (er != 0) = true := by simpa using her
        have hx := HX.out
        rw [if_pos her] at hx
        have HX2 := Lib.hid hx
        have HL2 := Lib.hid (((ST1.out.mach HM1.out).post hbu))
        clear hbu her hx hbud
        go_wp2
        go_ret
        rw [← HX2.out]
        exact ⟨rfl, HL2.out.post ((Below.refl _ _).alloc (Nat.le_refl _) _)⟩
end Go.Proofs.YtngobbbinacomaaDoor
