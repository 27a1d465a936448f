/- Chapter 14: push. -/
import Derived.Test.YtngobbbinacomaaDoorQ08
import Derived.Deep.RegionLaw
import Derived.Deep.AppendLies
import Derived.Deep.DeepCutAuto
namespace Go.Proofs.YtngobbbinacomaaDoor
open Go.RowKit
set_option linter.unusedVariables false
set_option linter.unusedSimpArgs false
attribute [local go_sem ↓] Go.wp_at_zero Go.wp_at_succ
theorem machInt : (Tryd.prog.info? 3).map (fun i => (i.zero, i.size, i.bytes)) = some (some (.int .i64 0), 1, 8) := by kernel_rfl
/-- Within a push: the machine's block as it was, the two rows as they have become. -/
structure PS (M : Who) (w : World) (K : Nat) (S : St) (sv kv : Value) (sc : Value) (ns : Nat) (xs : List Value) (kc : Value) (nk : Nat) (ys : List Value) (u : World) : Prop where
  fr : Fr M K w u
  kw : K ≤ w.heap.size
  blk : u.heap[M.g]? = some (.cells (mcells M.E M.C sv kv S) 77 (0, 0))
  cells : u.ownsRow M.B0 3 1 M.C S.cells.length (S.cells.map (Value.int .i64))
  stk : u.ownsRow K 3 1 sc ns xs
  knd : u.ownsRow K 3 1 kc nk ys
  apart : sc.ownBlock = none ∨ sc.ownBlock ≠ kc.ownBlock
  gK : M.g < K
  cK : ∀ b, M.C.ownBlock = some b → b < K
  far : ∀ b, b < w.heap.size → b ≠ M.g → sv.ownBlock ≠ some b → kv.ownBlock ≠ some b → u.heap[b]? = w.heap[b]?
  sold : ∀ b, sc.ownBlock = some b → sv.ownBlock = some b ∨ w.heap.size ≤ b
  kold : ∀ b, kc.ownBlock = some b → kv.ownBlock = some b ∨ w.heap.size ≤ b
section
variable {M : Who} {w u u' : World} {K : Nat} {S : St} {sv kv sc kc : Value} {ns nk : Nat} {xs ys : List Value}
theorem Mach.ps (h : Mach M w K sv kv S) : PS M w K S sv kv sv S.stk.length (S.stk.map fun p => Value.int .i64 p.2) kv S.stk.length (S.stk.map fun p => Value.int .i64 p.1) w :=
  ⟨Fr.refl _ _ _, h.kw, h.blk, h.cells, h.stk, h.knd, h.apart, h.gK, fun b hb => (h.cK b hb).1, fun _ _ _ _ _ => rfl, fun b hb => .inl hb, fun b hb => .inl hb⟩
theorem PS.cell (h : PS M w K S sv kv sc ns xs kc nk ys u) (j : Nat) : u.cell? ⟨M.g, j, none⟩ = (mcells M.E M.C sv kv S)[j]? := cell_of_row u M.g j _ _ (0, 0) h.blk
theorem PS.frozen (h : PS M w K S sv kv sc ns xs kc nk ys u) (j : Nat) : u.frozen? ⟨M.g, j, none⟩ = false := by
  have := h.blk
  simp [World.frozen?, this]
theorem PS.ku (h : PS M w K S sv kv sc ns xs kc nk ys u) : K ≤ u.heap.size := Nat.le_trans h.kw h.fr.size
theorem PS.drew (h : PS M w K S sv kv sc ns xs kc nk ys u) : PS M w K S sv kv sc ns xs kc nk ys u.drew := ⟨h.fr.drew, h.kw, h.blk, h.cells, h.stk, h.knd, h.apart, h.gK, h.cK, h.far, h.sold, h.kold⟩
theorem PS.drewN (h : PS M w K S sv kv sc ns xs kc nk ys u) (n : Nat) : PS M w K S sv kv sc ns xs kc nk ys (u.drewN n) := ⟨h.fr.drewN n, h.kw, h.blk, h.cells, h.stk, h.knd, h.apart, h.gK, h.cK, h.far, h.sold, h.kold⟩
theorem PS.alloc (h : PS M w K S sv kv sc ns xs kc nk ys u) (hz : w.heap.size ≤ u.heap.size) (o : Obj) : PS M w K S sv kv sc ns xs kc nk ys (u.alloc o) :=
  ⟨h.fr.alloc h.ku o, h.kw, (Below.heap_alloc u o M.g (Nat.lt_of_lt_of_le h.gK h.ku)).trans h.blk, h.cells.alloc o, h.stk.alloc o, h.knd.alloc o, h.apart, h.gK, h.cK, fun b hb h1 h2 h3 => (Below.heap_alloc u o b (by omega)).trans (h.far b hb h1 h2 h3), h.sold, h.kold⟩
theorem PS.app_s (h : PS M w K S sv kv sc ns xs kc nk ys u) {g c m : Nat} {x : List Value} (ho : u'.ownsRow K 3 1 (.slice (some ⟨g, 0, none⟩) (ns + m) c) (ns + m) (xs ++ x)) (hg : u.grownBy u' sc.ownBlock) (ha : sc.ownBlock = some g ∨ g = u.heap.size) :
    PS M w K S sv kv (.slice (some ⟨g, 0, none⟩) (ns + m) c) (ns + m) (xs ++ x) kc nk ys u' := by
  have hs : ∀ k, sc.ownBlock = some k → K ≤ k := fun k hk => (h.stk.lt k hk).1
  refine ⟨h.fr.grown hg h.ku hs, h.kw, (hg.block M.g (Nat.lt_of_lt_of_le h.gK h.ku) (fun e => by have := hs _ e.symm; have := h.gK; omega)).trans h.blk, h.cells.kept hg ?_, ho, h.knd.kept hg ?_, ?_, h.gK, h.cK, fun b hb h1 h2 h3 => (hg.block b (Nat.lt_of_lt_of_le hb h.fr.size) (fun e => (h.sold b e.symm).elim h2 (fun e' => by omega))).trans (h.far b hb h1 h2 h3), fun b hb => ?_, h.kold⟩
  · cases hc : M.C.ownBlock with
    | none => exact .inl rfl
    | some b => exact .inr fun e => by have := hs _ e.symm; have := h.cK _ hc; omega
  · cases hk : kc.ownBlock with
    | none => exact .inl rfl
    | some b =>
      rcases h.apart with h0 | h0
      · rw [h0]; exact .inr (by simp)
      · rw [hk] at h0; exact .inr (fun e => h0 e.symm)
  · right
    intro e
    have e' : kc.ownBlock = some g := e.symm
    rcases ha with ha | ha
    · rcases h.apart with h0 | h0
      · rw [ha] at h0; cases h0
      · exact h0 (ha.trans e'.symm)
    · have := (h.knd.lt _ e').2; omega
  · have hb' : b = g := by simpa [Value.ownBlock] using hb.symm
    rcases ha with ha | ha
    · rw [hb']; exact h.sold g ha
    · right; rw [hb', ha]; exact h.fr.size
theorem PS.app_k (h : PS M w K S sv kv sc ns xs kc nk ys u) {g c m : Nat} {x : List Value} (ho : u'.ownsRow K 3 1 (.slice (some ⟨g, 0, none⟩) (nk + m) c) (nk + m) (ys ++ x)) (hg : u.grownBy u' kc.ownBlock) (ha : kc.ownBlock = some g ∨ g = u.heap.size) :
    PS M w K S sv kv sc ns xs (.slice (some ⟨g, 0, none⟩) (nk + m) c) (nk + m) (ys ++ x) u' := by
  have hs : ∀ k, kc.ownBlock = some k → K ≤ k := fun k hk => (h.knd.lt k hk).1
  refine ⟨h.fr.grown hg h.ku hs, h.kw, (hg.block M.g (Nat.lt_of_lt_of_le h.gK h.ku) (fun e => by have := hs _ e.symm; have := h.gK; omega)).trans h.blk, h.cells.kept hg ?_, h.stk.kept hg ?_, ho, ?_, h.gK, h.cK, fun b hb h1 h2 h3 => (hg.block b (Nat.lt_of_lt_of_le hb h.fr.size) (fun e => (h.kold b e.symm).elim h3 (fun e' => by omega))).trans (h.far b hb h1 h2 h3), h.sold, fun b hb => ?_⟩
  · cases hc : M.C.ownBlock with
    | none => exact .inl rfl
    | some b => exact .inr fun e => by have := hs _ e.symm; have := h.cK _ hc; omega
  · exact h.apart
  · cases hsb : sc.ownBlock with
    | none => exact .inl rfl
    | some b =>
      right
      intro e
      have e' : b = g := by simpa [Value.ownBlock] using e
      rcases ha with ha | ha
      · rcases h.apart with h0 | h0
        · rw [hsb] at h0; cases h0
        · exact h0 (by rw [hsb, ha, e'])
      · have := (h.stk.lt _ hsb).2; omega
  · have hb' : b = g := by simpa [Value.ownBlock] using hb.symm
    rcases ha with ha | ha
    · rw [hb']; exact h.kold g ha
    · right; rw [hb', ha]; exact h.fr.size
end
/-- What push's rounds hold. -/
def PushRel (M : Who) (w : World) (K : Nat) (sv0 kv0 : Value) (S : St) (kind : Int) (vs : List Int) (q off : Nat) (A : Option Addr) (i : Value) (wr : World) : Prop :=
  ∃ (k : Nat) (sv kv : Value), i = .int .i64 k ∧ k ≤ vs.length ∧ Mach M wr K sv kv { S with stk := S.stk ++ (vs.take k).map fun v => (kind, v) } ∧ Fr M K w wr ∧
    sv.ownBlock ≠ some q ∧ kv.ownBlock ≠ some q ∧ q < wr.heap.size ∧ (∀ j v, vs[j]? = some v → wr.cell? ⟨q, off + j, none⟩ = some (.int .i64 v)) ∧
    ∀ b, b < w.heap.size → Far M b sv0 kv0 → wr.heap[b]? = w.heap[b]? ∧ Far M b sv kv
theorem push_round {M : Who} {w wr wk : World} {KB : Nat} {S S1 : St} {kind x : Int} {vs : List Int} {q off k gs cs gk ck : Nat} {A : Option Addr} {sv kv sv0 kv0 : Value}
    (hfar : ∀ b, b < w.heap.size → Far M b sv0 kv0 → wr.heap[b]? = w.heap[b]? ∧ Far M b sv kv) (hm : Mach M wr KB sv kv S1) (hf : Fr M KB w wr) (hS1 : ({ S with stk := S.stk ++ (vs.take k).map fun v => (kind, v) } : St) = S1) (hx : vs[k]? = some x) (hst : S1.stk.length ≤ 1000000000 - 1)
    (hqs : sv.ownBlock ≠ some q) (hqk : kv.ownBlock ≠ some q) (hqw : q < wr.heap.size) (hqg : q ≠ M.g) (hcell : ∀ j v, vs[j]? = some v → wr.cell? ⟨q, off + j, none⟩ = some (.int .i64 v))
    (p : PS M wr KB S1 sv kv (.slice (some ⟨gs, 0, none⟩) (S1.stk.length + 1) cs) (S1.stk.length + 1) ((S1.stk.map fun p => Value.int .i64 p.2) ++ [.int .i64 x]) (.slice (some ⟨gk, 0, none⟩) (S1.stk.length + 1) ck) (S1.stk.length + 1) ((S1.stk.map fun p => Value.int .i64 p.1) ++ [.int .i64 kind]) wk) :
    PushRel M w KB sv0 kv0 S kind vs q off A (.int .i64 ((k : Int) + 1)) ((wk.setCell ⟨M.g, 16, none⟩ (.slice (some ⟨gs, 0, none⟩) (S1.stk.length + 1) cs)).setCell ⟨M.g, 17, none⟩ (.slice (some ⟨gk, 0, none⟩) (S1.stk.length + 1) ck)) := by
  have hgs := (p.stk.lt gs rfl)
  have hgk := (p.knd.lt gk rfl)
  have hgK := p.gK
  have ns : (Value.slice (some ⟨gs, 0, none⟩) (S1.stk.length + 1) cs).ownBlock ≠ some M.g := fun e => by have : gs = M.g := by simpa [Value.ownBlock] using e
                                                                                                         omega
  have nk : (Value.slice (some ⟨gk, 0, none⟩) (S1.stk.length + 1) ck).ownBlock ≠ some M.g := fun e => by have : gk = M.g := by simpa [Value.ownBlock] using e
                                                                                                         omega
  have hlt : k < vs.length := (List.getElem?_eq_some_iff.1 hx).1
  have htake : vs.take (k + 1) = vs.take k ++ [x] := by rw [List.take_add_one, hx]; rfl
  have hfr : Fr M KB wr ((wk.setCell ⟨M.g, 16, none⟩ (.slice (some ⟨gs, 0, none⟩) (S1.stk.length + 1) cs)).setCell ⟨M.g, 17, none⟩ (.slice (some ⟨gk, 0, none⟩) (S1.stk.length + 1) ck)) := (p.fr.setG 16 _).setG 17 _
  refine ⟨k + 1, _, _, by simp, by omega, hm.fr (sv' := .slice (some ⟨gs, 0, none⟩) (S1.stk.length + 1) cs) (kv' := .slice (some ⟨gk, 0, none⟩) (S1.stk.length + 1) ck) (S' := { S with stk := S.stk ++ (vs.take (k + 1)).map fun v => (kind, v) }) hfr ?_ ?_ ?_ ?_ p.apart ?_ ?_, hf.trans hfr, ?_, ?_, ?_, ?_, fun b hb f => ?_⟩
  · have := blk_set (blk_set p.blk 16 (.slice (some ⟨gs, 0, none⟩) (S1.stk.length + 1) cs)) 17 (.slice (some ⟨gk, 0, none⟩) (S1.stk.length + 1) ck)
    subst hS1
    exact this
  · have := own_setFar (own_setFar p.cells hm.c_g (a := ⟨M.g, 16, none⟩) (.slice (some ⟨gs, 0, none⟩) (S1.stk.length + 1) cs)) hm.c_g (a := ⟨M.g, 17, none⟩) (.slice (some ⟨gk, 0, none⟩) (S1.stk.length + 1) ck)
    subst hS1
    exact this
  · have h := own_setFar (own_setFar p.stk ns (a := ⟨M.g, 16, none⟩) (.slice (some ⟨gs, 0, none⟩) (S1.stk.length + 1) cs)) ns (a := ⟨M.g, 17, none⟩) (.slice (some ⟨gk, 0, none⟩) (S1.stk.length + 1) ck)
    have e1 : (S.stk ++ (vs.take (k + 1)).map fun v => (kind, v)) = S1.stk ++ [(kind, x)] := by rw [← hS1, htake]; simp
    show World.ownsRow _ _ _ _ _ (S.stk ++ (vs.take (k + 1)).map fun v => (kind, v)).length ((S.stk ++ (vs.take (k + 1)).map fun v => (kind, v)).map _)
    rw [e1, List.length_append, List.map_append]
    exact h
  · have h := own_setFar (own_setFar p.knd nk (a := ⟨M.g, 16, none⟩) (.slice (some ⟨gs, 0, none⟩) (S1.stk.length + 1) cs)) nk (a := ⟨M.g, 17, none⟩) (.slice (some ⟨gk, 0, none⟩) (S1.stk.length + 1) ck)
    have e1 : (S.stk ++ (vs.take (k + 1)).map fun v => (kind, v)) = S1.stk ++ [(kind, x)] := by rw [← hS1, htake]; simp
    show World.ownsRow _ _ _ _ _ (S.stk ++ (vs.take (k + 1)).map fun v => (kind, v)).length ((S.stk ++ (vs.take (k + 1)).map fun v => (kind, v)).map _)
    rw [e1, List.length_append, List.map_append]
    exact h
  · have := hm.bud
    rw [← hS1] at this
    exact this
  · have e1 : (S.stk ++ (vs.take (k + 1)).map fun v => (kind, v)) = S1.stk ++ [(kind, x)] := by rw [← hS1, htake]; simp
    show (S.stk ++ (vs.take (k + 1)).map fun v => (kind, v)).length ≤ _
    rw [e1, List.length_append]
    simp
    omega
  · intro e
    rcases p.sold q e with e' | e'
    · exact hqs e'
    · omega
  · intro e
    rcases p.kold q e with e' | e'
    · exact hqk e'
    · omega
  · have := p.fr.size
    simp [World.setCell]
    omega
  · intro j v hj
    have h1 : ((wk.setCell ⟨M.g, 16, none⟩ (.slice (some ⟨gs, 0, none⟩) (S1.stk.length + 1) cs)).setCell ⟨M.g, 17, none⟩ (.slice (some ⟨gk, 0, none⟩) (S1.stk.length + 1) ck)).heap[q]? = wr.heap[q]? :=
      (Below.heap_setCell _ ⟨M.g, 17, none⟩ _ q hqg).trans ((Below.heap_setCell _ ⟨M.g, 16, none⟩ _ q hqg).trans (p.far q hqw hqg hqs hqk))
    exact (World.cell?_of_block (a := ⟨q, off + j, none⟩) h1).trans (hcell j v hj)
  · obtain ⟨e1, f1⟩ := hfar b hb f
    have hbw : b < wr.heap.size := Nat.lt_of_lt_of_le hb hf.size
    refine ⟨((Below.heap_setCell _ ⟨M.g, 17, none⟩ _ b f1.g).trans ((Below.heap_setCell _ ⟨M.g, 16, none⟩ _ b f1.g).trans (p.far b hbw f1.g f1.s f1.k))).trans e1, ⟨f1.g, f1.c, fun e => ?_, fun e => ?_⟩⟩
    · rcases p.sold b e with e' | e'
      · exact f1.s e'
      · omega
    · rcases p.kold b e with e' | e'
      · exact f1.k e'
      · omega
set_option maxHeartbeats 8000000 in
theorem push_any (M : Who) (w : World) (KB : Nat) (sv0 kv0 : Value) (S : St) (h : Mach M w KB sv0 kv0 S) (kind : Int) (vs : List Int) (q off c : Nat) (hvs : vs.length ≤ 10) (hhi : S.stk.length + vs.length ≤ 1000000000)
    (hq : q < w.heap.size) (hqs : sv0.ownBlock ≠ some q) (hqk : kv0.ownBlock ≠ some q) (hqg : q ≠ M.g) (hcell : ∀ j v, vs[j]? = some v → w.cell? ⟨q, off + j, none⟩ = some (.int .i64 v)) :
    Calls Tryd.prog 86 #[.pointer (some ⟨M.g, 0, none⟩), .int .i64 kind, .slice (some ⟨q, off, none⟩) vs.length c] w fun e w' => e = .returned (.tuple #[]) ∧
      Left M KB sv0 kv0 w w' { S with stk := S.stk ++ vs.map fun v => (kind, v) } := by
  obtain ⟨i0, hi, hz0, hz1, hz2⟩ := info_parts machInt
  have HM := Lib.hid h
  have HC := Lib.hid hcell
  have hv' : (vs.length : Int) ≤ 10 := by omega
  clear h hcell
  go_enter Tryd.func86, Tryd.ntmps86
  go_wp2_with fail
  go_loopw [10] (fun i wr => PushRel M w KB sv0 kv0 S kind vs q off none i wr) (fun i _ => vs.length - (intOf i).toNat)
  case atStart => exact ⟨0, sv0, kv0, rfl, Nat.zero_le _, by simpa using HM.out, Fr.refl _ _ _, hqs, hqk, hq, HC.out, fun _ _ f => ⟨rfl, f⟩⟩
  case round =>
    obtain ⟨k, sv, kv, rfl, hk, hm, hf, hns, hnk, hqw, hcell, hfar⟩ := hrel
    by_cases hlt : k < vs.length
    · have hlt' : (k : Int) < vs.length := by omega
      obtain ⟨x, hx⟩ : ∃ x, vs[k]? = some x := ⟨_, List.getElem?_eq_getElem hlt⟩
      have hcx := hcell k x hx
      have HX := Lib.hid hx
      have HFW := Lib.hid hf
      have HCC := Lib.hid hcell
      have HMM := Lib.hid hm
      have HFAR := Lib.hid hfar
      clear hfar
      have hst : (S.stk ++ (vs.take k).map fun v => (kind, v)).length ≤ 1000000000 - 1 := by
        have : (vs.take k).length ≤ k := List.length_take_le _ _
        simp only [List.length_append, List.length_map]; omega
      generalize hS1 : ({ S with stk := S.stk ++ (vs.take k).map fun v => (kind, v) } : St) = S1 at *
      have hst1 : S1.stk.length ≤ 1000000000 - 1 := by rw [← hS1]; exact hst
      have HS1 := Lib.hid hS1
      have m16 : wr.cell? ⟨M.g, 16, none⟩ = some sv := hm.cell 16
      have m17 : wr.cell? ⟨M.g, 17, none⟩ = some kv := hm.cell 17
      have f16 := hm.frozen 16
      have f17 := hm.frozen 17
      clear hS1 hst hcell hf hm hx
      have HP0 := Lib.hid HMM.out.ps
      have NS0 : some wr.heap.size ≠ sv.ownBlock := fun e => by have := (HMM.out.stk.lt _ e.symm).2; omega
      have NS1 : some (wr.heap.size + 1) ≠ sv.ownBlock := fun e => by have := (HMM.out.stk.lt _ e.symm).2; omega
      have NK0 : some wr.heap.size ≠ kv.ownBlock := fun e => by have := (HMM.out.knd.lt _ e.symm).2; omega
      have NK1 : some (wr.heap.size + 1) ≠ kv.ownBlock := fun e => by have := (HMM.out.knd.lt _ e.symm).2; omega
      have hkw := HMM.out.kw
      have hgK := HMM.out.gK
      have hgw : M.g < wr.heap.size := by omega
      have hgn : ¬ wr.heap.size = M.g := by omega
      have hgm : ¬ M.g = wr.heap.size := by omega
      go_upto_region 3 with fail
      go_region_law (first | (refine step_append_lies _ rfl (.tmp 19) (.tmp 21) 22 rfl KB 3 i0 _ 1 8 machTy hi hz0 hz1 hz2 rfl (by decide) sv S1.stk.length (S1.stk.map fun p => Value.int .i64 p.2) rfl (PS.stk (show PS M wr KB S1 sv kv sv S1.stk.length (S1.stk.map fun p => Value.int .i64 p.2) kv S1.stk.length (S1.stk.map fun p => Value.int .i64 p.1) _ from (by repeat (first | (with_reducible exact HP0.out) | (with_reducible refine PS.drew ?_) | (with_reducible refine PS.alloc ?_ (by first | omega | (simp; done) | (simp; omega)) _))))) ⟨_, 0, none⟩ 1 1 [.int .i64 x] rfl rfl (fun j u' hj => by (cases j with | zero => (simp at hj; subst hj; rw [Addr.add_lit]; go_simp) | succ j => (simp at hj))) (fun u hu => by (simp at hu; subst hu; rfl)) (by decide) (by unfold maxLen; omega) (by omega) (by first | omega | (simp; done) | (simp; omega)) _ rfl ?_; intro gs cs ws hos hgs has hls; have HPs := Lib.hid (PS.app_s (show PS M wr KB S1 sv kv sv S1.stk.length (S1.stk.map fun p => Value.int .i64 p.2) kv S1.stk.length (S1.stk.map fun p => Value.int .i64 p.1) _ from (by repeat (first | (with_reducible exact HP0.out) | (with_reducible refine PS.drew ?_) | (with_reducible refine PS.alloc ?_ (by first | omega | (simp; done) | (simp; omega)) _)))) hos hgs has); (try have es0 := hgs.cell_far ⟨wr.heap.size, 0, none⟩ (by first | omega | (simp; done) | (simp; omega)) NS0); (try have es1 := hgs.cell_far ⟨wr.heap.size + 1, 0, none⟩ (by first | omega | (simp; done) | (simp; omega)) NS1); have qs6 : ws.cell? ⟨M.g, 16, none⟩ = some sv := HPs.out.cell 16; have qs7 : ws.cell? ⟨M.g, 17, none⟩ = some kv := HPs.out.cell 17; have rs6 := HPs.out.frozen 16; have rs7 := HPs.out.frozen 17; have zs := hgs.size; (try simp at zs); have yns : M.g < ws.heap.size := (by omega); have xns : ¬ ws.heap.size = M.g := (by omega); have vns : ¬ M.g = ws.heap.size := (by omega); clear hos hgs has) | (refine step_append_lies _ rfl (.tmp 26) (.tmp 28) 22 rfl KB 3 i0 _ 1 8 machTy hi hz0 hz1 hz2 rfl (by decide) kv S1.stk.length (S1.stk.map fun p => Value.int .i64 p.1) rfl (PS.knd (show PS M wr KB S1 sv kv (.slice (some ⟨gs, 0, none⟩) (S1.stk.length + 1) cs) (S1.stk.length + 1) ((S1.stk.map fun p => Value.int .i64 p.2) ++ [.int .i64 x]) kv S1.stk.length (S1.stk.map fun p => Value.int .i64 p.1) _ from (by repeat (first | (with_reducible exact HPs.out) | (with_reducible refine PS.drew ?_) | (with_reducible refine PS.alloc ?_ (by first | omega | (simp; done) | (simp; omega)) _))))) ⟨_, 0, none⟩ 1 1 [.int .i64 kind] rfl rfl (fun j u' hj => by (cases j with | zero => (simp at hj; subst hj; rw [Addr.add_lit]; go_simp) | succ j => (simp at hj))) (fun u hu => by (simp at hu; subst hu; rfl)) (by decide) (by unfold maxLen; omega) (by omega) (by first | omega | (simp; done) | (simp; omega)) _ rfl ?_; intro gk ck wk hok hgk hak hlk; have HPk := Lib.hid (PS.app_k (show PS M wr KB S1 sv kv (.slice (some ⟨gs, 0, none⟩) (S1.stk.length + 1) cs) (S1.stk.length + 1) ((S1.stk.map fun p => Value.int .i64 p.2) ++ [.int .i64 x]) kv S1.stk.length (S1.stk.map fun p => Value.int .i64 p.1) _ from (by repeat (first | (with_reducible exact HPs.out) | (with_reducible refine PS.drew ?_) | (with_reducible refine PS.alloc ?_ (by first | omega | (simp; done) | (simp; omega)) _)))) hok hgk hak); (try have ek0 := hgk.cell_far ⟨wr.heap.size, 0, none⟩ (by first | omega | (simp; done) | (simp; omega)) NK0); (try have ek1 := hgk.cell_far ⟨wr.heap.size + 1, 0, none⟩ (by first | omega | (simp; done) | (simp; omega)) NK1); have qk6 : wk.cell? ⟨M.g, 16, none⟩ = some sv := HPk.out.cell 16; have qk7 : wk.cell? ⟨M.g, 17, none⟩ = some kv := HPk.out.cell 17; have rk6 := HPk.out.frozen 16; have rk7 := HPk.out.frozen 17; have zk := hgk.size; (try simp at zk); have ynk : M.g < wk.heap.size := (by omega); have xnk : ¬ wk.heap.size = M.g := (by omega); have vnk : ¬ M.g = wk.heap.size := (by omega); clear hok hgk hak))
      all_goals go_wp2
      all_goals exact ⟨push_round HFAR.out HMM.out HFW.out HS1.out HX.out hst1 hns hnk hqw hqg HCC.out HPk.out, by simp [intOf]; omega⟩
    · have hkl : k = vs.length := by omega
      subst hkl
      have HMM := Lib.hid hm
      have HFW := Lib.hid hf
      have HFAR := Lib.hid hfar
      clear hm hf hcell hfar
      go_wp2
      go_end0
      refine ⟨rfl, sv, kv, ?_, HFW.out, HFAR.out⟩
      have := HMM.out
      rw [List.take_length] at this
      exact this
end Go.Proofs.YtngobbbinacomaaDoor
