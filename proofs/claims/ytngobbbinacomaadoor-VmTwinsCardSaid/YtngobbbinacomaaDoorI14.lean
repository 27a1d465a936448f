/- Chapter 14: the machine's loop, and calls. -/
import Derived.Test.YtngobbbinacomaaDoorH14
import Derived.Deep.DeepCutAuto
import Derived.Deep.LoopGhost
namespace Go.Proofs.YtngobbbinacomaaDoor
open Go.RowKit Go.Proofs.YtngobbbinacomaaDoor.c11 Go.Proofs.YtngobbbinacomaaDoor.c10
set_option linter.unusedVariables false
set_option linter.unusedSimpArgs false
attribute [local go_sem ↓] Go.wp_at_zero Go.wp_at_succ

/-- A function's bytes, as they lie. -/
structure CodeAt (M : Who) (w : World) (A : Option Addr) (cap : Nat) (b : List Int) : Prop where
  row : RowX w M.X 1 A b.length (b.map (Value.int .u8))
  le : b.length ≤ cap
  max : cap ≤ 9223372036854775807
  len : b.length ≤ 4611686018427387904
  bytes : ∀ x ∈ b, 0 ≤ x ∧ x < 256
theorem CodeAt.keep {M : Who} {w w' : World} {K : Nat} {A : Option Addr} {cap : Nat} {b : List Int} (h : CodeAt M w A cap b) (hk : M.K0 ≤ K) (f : Fr M K w w') : CodeAt M w' A cap b :=
  ⟨h.row.keep fun x hx => f.block x (Nat.lt_of_lt_of_le hx.1 hk) hx.2.1 hx.2.2, h.le, h.max, h.len, h.bytes⟩
theorem CodeAt.came {M : Who} {w : World} {A : Option Addr} {cap : Nat} {b : List Int} (h : CodeAt M w A cap b) (hK : M.K0 ≤ w.heap.size) : Came w A b.length cap fun i => .int .u8 (b.getD i 0) := by
  refine ⟨h.le, h.max, fun h0 => ?_⟩
  obtain ⟨x, off, hA, hX, hc⟩ := h.row.2 h0
  refine ⟨x, off, hA, Nat.lt_of_lt_of_le hX.1 hK, fun i hi => ?_⟩
  exact hc i _ (by simp [List.getD_eq_getElem?_getD, List.getElem?_eq_getElem hi])
theorem Stat.codeAt {M : Who} {w : World} (h : Stat w M.X M.E) {i : Nat} {b : List Int} (hb : M.E.funcs[i]? = some b) : CodeAt M w (M.E.Fv i) (M.E.Fl i) b := by
  obtain ⟨h1, h2, h3, h4, h5⟩ := h.code i b hb
  exact ⟨h1, h2, h3, h4, h5⟩

/-- Blocks are run as they should, or there is none. -/
def Blocks (M : Who) : Prop := (∀ b ∈ M.E.funcs, ∀ x ∈ b, x ≠ 27) ∨ ∀ K S a, 0 ≤ a → a ≤ 1000000 → BlockAt M K S a

/-- A function's contract, with so much left. -/
def FunOk (M : Who) (f : Nat) : Prop := ∀ (K : Nat) (w : World) (sv kv : Value) (S : St) (b : List Int) (A : Option Addr) (cap : Nat), Mach M w K sv kv S → CodeAt M w A cap b → b ∈ M.E.funcs → S.left < f → S.stk.length ≤ 2 * S.used →
  Calls Tryd.prog 54 #[.pointer (some ⟨M.g, 0, none⟩), .slice A b.length cap] w fun e w' => e = .returned (.int .i64 (execP M.E f b 0 S).2) ∧ Left M K sv kv w w' (execP M.E f b 0 S).1

theorem Mach.regs {M : Who} {w : World} {K : Nat} {sv kv sv' kv' : Value} {S S' : St} (h : Mach M w K sv kv S) {K' : Nat} (hg : M.g < K') (hk0 : M.K0 ≤ K') (hw : K' ≤ w.heap.size) (hC : ∀ b, M.C.ownBlock = some b → b < K') (hc : S'.cells = S.cells) (hm : (S'.o0 = S.o0 ∧ S'.o1 = S.o1 ∧ S'.o2 = S.o2 ∧ S'.o3 = S.o3) ∧ S'.left = S.left ∧ S'.used = S.used)
    (hs : w.ownsRow K' 3 1 sv' S'.stk.length (S'.stk.map fun p => Value.int .i64 p.2)) (hk : w.ownsRow K' 3 1 kv' S'.stk.length (S'.stk.map fun p => Value.int .i64 p.1)) (ha : sv'.ownBlock = none ∨ sv'.ownBlock ≠ kv'.ownBlock) (hh : S'.stk.length ≤ 1000000000)
    (hsg : sv'.ownBlock ≠ some M.g) (hkg : kv'.ownBlock ≠ some M.g) :
    Mach M ((w.setCell ⟨M.g, 16, none⟩ sv').setCell ⟨M.g, 17, none⟩ kv') K' sv' kv' S' := by
  have hb := blk_set (blk_set h.blk 16 sv') 17 kv'
  have e : ((mcells M.E M.C sv kv S).setIfInBounds 16 sv').setIfInBounds 17 kv' = mcells M.E M.C sv' kv' S' := by
    obtain ⟨⟨h0, h1, h2, h3⟩, h4, h5⟩ := hm
    simp [mcells, h0, h1, h2, h3, h4, h5]
  rw [e] at hb
  refine ⟨hb, hg, hk0, by simpa [World.setCell] using hw, ?_, fun b hb' => ⟨hC b hb', (h.cK b hb').2⟩, own_setFar (own_setFar hs hsg _) hsg _, own_setFar (own_setFar hk hkg _) hkg _, ha, ?_, by rw [hm.2.1, hm.2.2]; exact h.bud, hh⟩
  · rw [hc]
    exact own_setFar (own_setFar h.cells h.c_g _) h.c_g _
  · exact h.stat.keep fun b hX => (Below.heap_setCell _ ⟨M.g, 17, none⟩ _ b hX.2.1).trans (Below.heap_setCell _ ⟨M.g, 16, none⟩ _ b hX.2.1)

theorem own_fr {w w' : World} {base : Nat} {e : TypeId} {size n : Nat} {v : Value} {xs : List Value} (h : w.ownsRow base e size v n xs) (hb : ∀ b, v.ownBlock = some b → w'.heap[b]? = w.heap[b]?) : w'.ownsRow base e size v n xs := by
  refine ⟨h.1, ?_⟩
  rcases h.2 with hn | ⟨g, cap, cur, rfl, hg, hgg, rest⟩
  · exact .inl hn
  · exact .inr ⟨g, cap, cur, rfl, hg, (hb g rfl).trans hgg, rest⟩

/-- A call's outcome. -/
def callP (E : Env) (f : Nat) (S : St) (a : Int) : St × Int :=
  if a < E.funcs.length then ({ (execP E f (E.funcs.getD a.toNat []) 0 { S with stk := [] }).1 with stk := S.stk }, (execP E f (E.funcs.getD a.toNat []) 0 { S with stk := [] }).2) else (S, 20)

set_option maxHeartbeats 4000000 in
set_option maxRecDepth 100000 in
theorem call_any (M : Who) (f : Nat) (hf : FunOk M f) (K : Nat) (S : St) (j : Nat) (hl : S.left < f) : CallAt M K S j (callP M.E f S j) := by
  intro w sv kv h
  obtain ⟨As, cs, hsv, _, _⟩ := own_slice h.stk
  obtain ⟨Ak, ck, hkv, _, _⟩ := own_slice h.knd
  subst hsv hkv
  have m7 : w.cell? ⟨M.g, 7, none⟩ = some (.slice M.E.Fa M.E.funcs.length M.E.Fc) := h.cell 7
  have hfc := h.stat.fc
  have hlen : (M.E.funcs.length : Int) ≤ 9223372036854775807 := by omega
  have hgw := h.gw
  have hj0 : ¬ (j : Int) < 0 := by omega
  by_cases hj : (j : Int) < M.E.funcs.length
  · have hj' : j < M.E.funcs.length := by omega
    obtain ⟨b, hb⟩ : ∃ b, M.E.funcs[j]? = some b := ⟨_, List.getElem?_eq_getElem hj'⟩
    have hcall : callP M.E f S j = ({ (execP M.E f b 0 { S with stk := [] }).1 with stk := S.stk }, (execP M.E f b 0 { S with stk := [] }).2) := by
      simp only [callP, if_pos hj]
      rw [show (j : Int).toNat = j by omega, show M.E.funcs.getD j [] = b by rw [List.getD_eq_getElem?_getD, hb]; rfl]
    obtain ⟨R, hR⟩ : ∃ R, execP M.E f b 0 { S with stk := [] } = R := ⟨_, rfl⟩
    rw [hR] at hcall
    rw [hcall]
    have HR := Lib.hid hR
    clear hR
    obtain ⟨x, off, hA, hX, hc⟩ := h.stat.funcs.2 (by omega)
    have vj : w.cell? ⟨x, off + j, none⟩ = some (.slice (M.E.Fv j) b.length (M.E.Fl j)) := by
      refine hc j _ ?_
      rw [List.getElem?_map, List.getElem?_range hj']
      simp [List.getD_eq_getElem?_getD, hb]
    have hxw : x < w.heap.size := Nat.lt_of_lt_of_le hX.1 (Nat.le_trans h.k0 h.kw)
    have hxg : ¬ x = M.g := hX.2.1
    have hxg' : ¬ M.g = x := fun e => hxg e.symm
    have m16 : w.cell? ⟨M.g, 16, none⟩ = some (.slice As S.stk.length cs) := h.cell 16
    have m17 : w.cell? ⟨M.g, 17, none⟩ = some (.slice Ak S.stk.length ck) := h.cell 17
    have f16 := h.frozen 16
    have f17 := h.frozen 17
    rw [hA] at m7
    have HM := Lib.hid h
    have HCODE := Lib.hid (h.stat.codeAt hb)
    have HBM := Lib.hid (List.mem_of_getElem? hb)
    have HF := Lib.hid hf
    have HL := Lib.hid hl
    clear h hf hc hA hX hcall hb hfc hl
    go_enter Tryd.func39, Tryd.ntmps39
    go_wp2_with fail
    go_quiet (fail)
    go_wp2_with fail
    refine (HF.out w.heap.size _ (.slice none 0 0) (.slice none 0 0) { S with stk := [] } b _ _ (Mach.regs (HM.out.drewN _) (S' := { S with stk := [] }) hgw (Nat.le_trans HM.out.k0 HM.out.kw) (Nat.le_refl _) (fun x hx => Nat.lt_of_lt_of_le (HM.out.cK x hx).1 HM.out.kw) rfl ⟨⟨rfl, rfl, rfl, rfl⟩, rfl, rfl⟩ (World.ownsRow_nil _ _ _ _) (World.ownsRow_nil _ _ _ _) (.inl rfl) (by simp) (by simp [Value.ownBlock]) (by simp [Value.ownBlock]))
      (HCODE.out.keep (K := w.heap.size) (Nat.le_trans HM.out.k0 HM.out.kw) ((((Fr.refl M w.heap.size w).drewN _).setG 16 _).setG 17 _)) HBM.out HL.out (by simp)).mono ?_
    rintro e w2 ⟨he, hl⟩
    rw [HR.out] at he hl
    subst he
    obtain ⟨sv2, kv2, hm2, fr2, far2⟩ := hl
    have n16 : w2.cell? ⟨M.g, 16, none⟩ = some sv2 := hm2.cell 16
    have n17 : w2.cell? ⟨M.g, 17, none⟩ = some kv2 := hm2.cell 17
    have g16 := hm2.frozen 16
    have g17 := hm2.frozen 17
    have hfr := ((((Fr.refl M w.heap.size w).drewN _).setG 16 _).setG 17 _).trans fr2
    have hzw := hfr.size
    have hsb : ∀ x, (Value.slice As S.stk.length cs).ownBlock = some x → w2.heap[x]? = w.heap[x]? := fun x hx => hfr.block x (HM.out.stk.lt x hx).2 (fun e => HM.out.stk_g (e ▸ hx)) (fun e => by
      rcases HM.out.c_stk with h0 | h0
      · rw [h0] at e; cases e
      · exact h0 (e.trans hx.symm))
    have hkb : ∀ x, (Value.slice Ak S.stk.length ck).ownBlock = some x → w2.heap[x]? = w.heap[x]? := fun x hx => hfr.block x (HM.out.knd.lt x hx).2 (fun e => HM.out.knd_g (e ▸ hx)) (fun e => by
      rcases HM.out.c_knd with h0 | h0
      · rw [h0] at e; cases e
      · exact h0 (e.trans hx.symm))
    have hreg := Mach.regs hm2 (S' := { R.1 with stk := S.stk }) (sv' := .slice As S.stk.length cs) (kv' := .slice Ak S.stk.length ck) HM.out.gK HM.out.k0 (Nat.le_trans HM.out.kw hzw) (fun x hx => (HM.out.cK x hx).1) rfl ⟨⟨rfl, rfl, rfl, rfl⟩, rfl, rfl⟩ (own_fr HM.out.stk hsb) (own_fr HM.out.knd hkb) HM.out.apart HM.out.hi HM.out.stk_g HM.out.knd_g
    have HL2 := Lib.hid (show Left M K (.slice As S.stk.length cs) (.slice Ak S.stk.length ck) w ((w2.setCell ⟨M.g, 16, none⟩ (.slice As S.stk.length cs)).setCell ⟨M.g, 17, none⟩ (.slice Ak S.stk.length ck)) { R.1 with stk := S.stk } from
      ⟨_, _, hreg, ((hfr.mono HM.out.kw).setG 16 _).setG 17 _, fun x hx fx => ⟨(Below.heap_setCell _ ⟨M.g, 17, none⟩ _ x fx.g).trans ((Below.heap_setCell _ ⟨M.g, 16, none⟩ _ x fx.g).trans (hfr.block x hx fx.g fx.c)), fx⟩⟩)
    clear hm2 fr2 far2 hfr hsb hkb hreg
    go_wp2
    go_ret
    exact ⟨rfl, HL2.out⟩
  · rw [show callP M.E f S j = (S, 20) by simp [callP, hj]]
    have hj' : decide (M.E.funcs.length ≤ j) = true := by simp; omega
    have HL2 := Lib.hid h.left
    clear h hf hfc hj
    go_enter Tryd.func39, Tryd.ntmps39
    go_wp2
    go_ret
    exact ⟨rfl, HL2.out⟩
end Go.Proofs.YtngobbbinacomaaDoor
