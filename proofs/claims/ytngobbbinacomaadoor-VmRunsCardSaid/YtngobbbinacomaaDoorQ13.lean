/- Chapter 14: what an instruction does with the stack alone. -/
import Derived.Test.YtngobbbinacomaaDoorQ10
import Derived.Test.YtngobbbinacomaaDoorQ04
import Derived.Outline
namespace Go.Proofs.YtngobbbinacomaaDoor
open Go.RowKit Go.Proofs.YtngobbbinacomaaDoor.c11
set_option linter.unusedVariables false
set_option linter.unusedSimpArgs false
attribute [local go_sem ↓] Go.wp_at_zero Go.wp_at_succ
theorem Mach.alloc {M : Who} {w : World} {K : Nat} {sv kv : Value} {S : St} (h : Mach M w K sv kv S) (o : Obj) : Mach M (w.alloc o) K sv kv S := h.below ((Below.refl _ w).alloc (Nat.le_refl _) _)
theorem Mach.drewN {M : Who} {w : World} {K : Nat} {sv kv : Value} {S : St} (h : Mach M w K sv kv S) (n : Nat) : Mach M (w.drewN n) K sv kv S := h.below ⟨rfl, rfl, rfl, Nat.le_refl _, fun _ _ => rfl⟩
theorem Mach.gw {M : Who} {w : World} {K : Nat} {sv kv : Value} {S : St} (h : Mach M w K sv kv S) : M.g < w.heap.size := Nat.lt_of_lt_of_le h.gK h.kw
/-- A literal pushed. -/
theorem push_lit1 (M : Who) (u : World) (K : Nat) (sv kv : Value) (S : St) (h : Mach M u K sv kv S) (kind v : Int) (hhi : S.stk.length ≤ 999999000) :
    Calls Tryd.prog 86 #[.pointer (some ⟨M.g, 0, none⟩), .int .i64 kind, .slice (some ⟨u.heap.size, 0, none⟩) 1 1] (u.alloc (.cells #[.int .i64 v] 3)) fun e w' => e = .returned (.tuple #[]) ∧ Left M K sv kv u w' (pushS S kind [v]) := by
  refine (push_any M _ K sv kv S (h.alloc _) kind [v] u.heap.size 0 1 (by simp) (by simp; omega) (by simp) (fun e => by have := (h.stk.lt _ e).2; omega) (fun e => by have := (h.knd.lt _ e).2; omega) (fun e => by have := h.gw; omega) ?_).mono ?_
  · intro j x hj
    cases j with
    | zero => simp at hj; subst hj; rw [Nat.zero_add]; go_simp
    | succ j => simp at hj
  · rintro e w' ⟨he, hl⟩
    exact ⟨he, Left.pre ((Below.refl _ u).alloc (Nat.le_refl _) _) h.kw hl⟩
theorem push_lit2 (M : Who) (u : World) (K : Nat) (sv kv : Value) (S : St) (h : Mach M u K sv kv S) (kind v v2 : Int) (hhi : S.stk.length ≤ 999999000) :
    Calls Tryd.prog 86 #[.pointer (some ⟨M.g, 0, none⟩), .int .i64 kind, .slice (some ⟨u.heap.size, 0, none⟩) 2 2] (u.alloc (.cells #[.int .i64 v, .int .i64 v2] 3)) fun e w' => e = .returned (.tuple #[]) ∧ Left M K sv kv u w' (pushS S kind [v, v2]) := by
  refine (push_any M _ K sv kv S (h.alloc _) kind [v, v2] u.heap.size 0 2 (by simp) (by simp; omega) (by simp) (fun e => by have := (h.stk.lt _ e).2; omega) (fun e => by have := (h.knd.lt _ e).2; omega) (fun e => by have := h.gw; omega) ?_).mono ?_
  · intro j x hj
    rcases j with _ | _ | j
    · simp at hj; subst hj; rw [Nat.zero_add]; go_simp
    · simp at hj; subst hj; go_simp
    · simp at hj
  · rintro e w' ⟨he, hl⟩
    exact ⟨he, Left.pre ((Below.refl _ u).alloc (Nat.le_refl _) _) h.kw hl⟩
/-- A literal pushed, wherever it lies. -/
theorem push_at1 {M : Who} {w0 u : World} {K : Nat} {sv kv : Value} {S : St} (h : Mach M w0 K sv kv S) (hb : Below w0.heap.size w0 u) (hhi : S.stk.length ≤ 999999000) (kind v : Int) (q : Nat) (hq : w0.heap.size ≤ q) (hq2 : q < u.heap.size) (hc : u.cell? ⟨q, 0, none⟩ = some (.int .i64 v)) :
    Calls Tryd.prog 86 #[.pointer (some ⟨M.g, 0, none⟩), .int .i64 kind, .slice (some ⟨q, 0, none⟩) 1 1] u fun e w' => e = .returned (.tuple #[]) ∧ Left M K sv kv w0 w' (pushS S kind [v]) := by
  have f := h.far_new hq
  refine (push_any M _ K sv kv S (h.below hb) kind [v] q 0 1 (by simp) (by simp; omega) hq2 f.s f.k f.g ?_).mono ?_
  · intro j x hj
    cases j with
    | zero => simp at hj; subst hj; rw [Nat.zero_add]; exact hc
    | succ j => simp at hj
  · rintro e w' ⟨he, hl⟩
    exact ⟨he, Left.pre hb h.kw hl⟩
/-- What an instruction does with the stack alone, and its error. -/
def operateP (S : St) (s a : Int) : St × Int :=
  if s = 15 then (pushS (popS S).2 (popS S).1.1 [notK (popS S).1.1 (popS S).1.2], 0)
  else if s = 21 then (pushS (popS S).2 (popS S).1.1 [(popS S).1.2, (popS S).1.2], 0)
  else if s = 22 then ((popS S).2, 0)
  else if s = 23 then (pushS (popS S).2 a [wrapK a (popS S).1.2], 0)
  else if twoE s (popS (popS S).2).1.1 (popS S).1.1 (popS S).1.2 = 0 then
    (pushS (popS (popS S).2).2 (kindM s (popS (popS S).2).1.1 (popS S).1.1) [twoM s (popS (popS S).2).1.1 (popS S).1.1 (popS (popS S).2).1.2 (popS S).1.2], 0)
  else ((popS (popS S).2).2, twoE s (popS (popS S).2).1.1 (popS S).1.1 (popS S).1.2)
set_option maxHeartbeats 4000000 in
set_option maxRecDepth 100000 in
theorem operate_any (M : Who) (w : World) (K : Nat) (sv kv : Value) (S : St) (h : Mach M w K sv kv S) (hhi : S.stk.length ≤ 999998000) (a0 a1 s a n : Int) :
    Calls Tryd.prog 99 #[.pointer (some ⟨M.g, 0, none⟩), .agg #[.int .i64 a0, .int .i64 a1, .int .i64 s, .int .i64 a, .int .i64 n]] w fun e w' => e = .returned (.int .i64 (operateP S s a).2) ∧ Left M K sv kv w w' (operateP S s a).1 := by
  have H0 := Lib.hid (h.alloc (.cells #[.int .i64 a0, .int .i64 a1, .int .i64 s, .int .i64 a, .int .i64 n] 127))
  have B0 := Lib.hid (show Below w.heap.size w (w.alloc (.cells #[.int .i64 a0, .int .i64 a1, .int .i64 s, .int .i64 a, .int .i64 n] 127)) from (Below.refl _ w).alloc (Nat.le_refl _) _)
  have HKW := Lib.hid h.kw
  have HFN := Lib.hid (h.far_new (b := w.heap.size) (Nat.le_refl _))
  have P0 := Lib.hid (pop_any M _ K sv kv S H0.out)
  have hp1 := popS_hi S
  obtain ⟨⟨⟨k1, x1⟩, S1⟩, hr1⟩ : ∃ r, popS S = r := ⟨_, rfl⟩
  rw [hr1] at P0 hp1
  have HH := Lib.hid (show S1.stk.length ≤ 999998000 from Nat.le_trans hp1 hhi)
  clear hp1
  by_cases h15 : s = 15
  · subst h15
    rw [show operateP S 15 a = (pushS S1 k1 [notK k1 x1], 0) by simp [operateP, hr1]]
    clear hr1 h hhi
    go_enter Tryd.func99, Tryd.ntmps99
    go_wp2_with fail
    refine P0.out.mono ?_
    rintro e w1 ⟨rfl, hl1⟩
    obtain ⟨sv1, kv1, hm1, st1⟩ := hl1.step
    have ST := Lib.hid st1
    have PL := Lib.hid (push_lit1 M w1 K sv1 kv1 S1 hm1 k1 (notK k1 x1) (by have := HH.out; omega))
    have PN := Lib.hid (fun u => pnot_any k1 x1 u)
    clear hm1 st1 hl1
    go_wp2_with fail
    refine (PN.out _).mono ?_
    rintro e _ ⟨rfl, rfl⟩
    go_wp2_with fail
    refine PL.out.mono ?_
    rintro e w2 ⟨rfl, hl⟩
    have HL := Lib.hid (Left.pre B0.out HKW.out (ST.out.left hl))
    clear hl
    go_wp2
    go_ret
    exact ⟨rfl, HL.out⟩
  have h15' : (s == 15) = false := by simpa using h15
  by_cases h21 : s = 21
  · subst h21
    rw [show operateP S 21 a = (pushS S1 k1 [x1, x1], 0) by simp [operateP, hr1]]
    clear hr1 h hhi h15 h15'
    go_enter Tryd.func99, Tryd.ntmps99
    go_wp2_with fail
    refine P0.out.mono ?_
    rintro e w1 ⟨rfl, hl1⟩
    obtain ⟨sv1, kv1, hm1, st1⟩ := hl1.step
    have ST := Lib.hid st1
    have PL := Lib.hid (push_lit2 M w1 K sv1 kv1 S1 hm1 k1 x1 x1 (by have := HH.out; omega))
    clear hm1 st1 hl1
    go_wp2_with fail
    refine PL.out.mono ?_
    rintro e w2 ⟨rfl, hl⟩
    have HL := Lib.hid (Left.pre B0.out HKW.out (ST.out.left hl))
    clear hl
    go_wp2
    go_ret
    exact ⟨rfl, HL.out⟩
  have h21' : (s == 21) = false := by simpa using h21
  by_cases h22 : s = 22
  · subst h22
    rw [show operateP S 22 a = (S1, 0) by simp [operateP, hr1]]
    clear hr1 h hhi h15 h15' h21 h21'
    go_enter Tryd.func99, Tryd.ntmps99
    go_wp2_with fail
    refine P0.out.mono ?_
    rintro e w1 ⟨rfl, hl1⟩
    have HL := Lib.hid (Left.pre B0.out HKW.out hl1)
    clear hl1
    go_wp2
    go_ret
    exact ⟨rfl, HL.out⟩
  have h22' : (s == 22) = false := by simpa using h22
  by_cases h23 : s = 23
  · subst h23
    rw [show operateP S 23 a = (pushS S1 a [wrapK a x1], 0) by simp [operateP, hr1]]
    clear hr1 h hhi h15 h15' h21 h21' h22 h22'
    go_enter Tryd.func99, Tryd.ntmps99
    go_wp2_with fail
    refine P0.out.mono ?_
    rintro e w1 ⟨rfl, hl1⟩
    obtain ⟨sv1, kv1, hm1, st1⟩ := hl1.step
    have ST := Lib.hid st1
    have o3 : w1.cell? ⟨w.heap.size, 3, none⟩ = some (.int .i64 a) := (st1.cell (by simp) HFN.out 3).trans (by go_simp)
    have hz1 : w.heap.size < w1.heap.size := by have := st1.fr.size; simp at this; omega
    have PL := Lib.hid (push_at1 hm1 (((Below.refl _ w1).alloc (Nat.le_refl _) (.cells #[.int .i64 (wrapK a x1)] 3)).drew) (by have := HH.out; omega) a (wrapK a x1) w1.heap.size (Nat.le_refl _) (by simp) (by go_simp))
    have PC := Lib.hid (fun u => pconv_any k1 a x1 u)
    clear hm1 st1 hl1
    go_wp2_with fail
    go_region_held3 (fun w' => w'.cell? ⟨w.heap.size, 3, none⟩ = some (.int .i64 a)) (go_keep)
      (first | (go_at_call 107; (with_reducible refine (PC.out _).mono ?_); rintro e w' ⟨rfl, rfl⟩) | (go_at_call 86; (with_reducible refine PL.out.mono ?_); rintro e w2 ⟨rfl, hl⟩; obtain ⟨sv2, kv2, hm2, st2⟩ := hl.step; have oc := st2.cell (b := w.heap.size) (by first | omega | (simp; omega)) (ST.out.far w.heap.size (by simp) HFN.out).2 3; (try simp at oc); have HL := Lib.hid (Left.pre B0.out HKW.out (ST.out.left hl)); clear hl hm2 st2))
    all_goals go_wp2
    all_goals go_ret
    all_goals exact ⟨rfl, HL.out⟩
  have h23' : (s == 23) = false := by simpa using h23
  have hp2 := popS_hi S1
  obtain ⟨⟨⟨k2, x2⟩, S2⟩, hr2⟩ : ∃ r, popS S1 = r := ⟨_, rfl⟩
  rw [hr2] at hp2
  have H2 := Lib.hid (show S2.stk.length ≤ 999998000 from Nat.le_trans hp2 HH.out)
  clear hp2
  have HR2 := Lib.hid hr2
  have hop : operateP S s a = if twoE s k2 k1 x1 = 0 then (pushS S2 (kindM s k2 k1) [twoM s k2 k1 x2 x1], 0) else (S2, twoE s k2 k1 x1) := by simp [operateP, h15, h21, h22, h23, hr1, hr2]
  rw [hop]
  have PT := Lib.hid (fun u => ptwo_any s k2 k1 x2 x1 u)
  have PK := Lib.hid (fun u => pkind_any s k2 k1 u)
  clear hr1 hr2 h hhi hop
  by_cases he : twoE s k2 k1 x1 = 0
  · rw [if_pos he]
    rw [he] at PT
    clear he
    go_enter Tryd.func99, Tryd.ntmps99
    go_wp2_with fail
    refine P0.out.mono ?_
    rintro e w1 ⟨rfl, hl1⟩
    obtain ⟨sv1, kv1, hm1, st1⟩ := hl1.step
    have ST := Lib.hid st1
    have P1 := Lib.hid (pop_any M _ K sv1 kv1 S1 hm1)
    rw [HR2.out] at P1
    clear hm1 st1 hl1
    go_wp2_with fail
    refine P1.out.mono ?_
    rintro e w2 ⟨rfl, hl2⟩
    obtain ⟨sv2, kv2, hm2, st2⟩ := hl2.step
    have st2' := ST.out.trans st2
    have o2 : w2.cell? ⟨w.heap.size, 2, none⟩ = some (.int .i64 s) := (st2'.cell (by simp) HFN.out 2).trans (by go_simp)
    have hz2 : w.heap.size < w2.heap.size := by have := st2'.fr.size; simp at this; omega
    have HM2 := Lib.hid hm2
    have ST2 := Lib.hid st2'
    clear hm2 st2 hl2 st2'
    go_wp2_with fail
    refine (PT.out _).mono ?_
    rintro e w3 ⟨rfl, hb3⟩
    have o2' : w3.cell? ⟨w.heap.size, 2, none⟩ = some (.int .i64 s) := (dcell hb3 hz2 2).trans o2
    have HB3 := Lib.hid hb3
    have hz3 : w.heap.size < w3.heap.size := by have := hb3.size; omega
    clear hb3 o2
    go_wp2_with fail
    refine (PK.out _).mono ?_
    rintro e w4 ⟨rfl, hb4⟩
    have HB4 := Lib.hid (HB3.out.trans (hb4.mono HB3.out.size))
    have PL := Lib.hid (push_lit1 M w4 K sv2 kv2 S2 (HM2.out.below HB4.out) (kindM s k2 k1) (twoM s k2 k1 x2 x1) (by have := H2.out; omega))
    clear hb4
    go_wp2_with fail
    refine PL.out.mono ?_
    rintro e w5 ⟨rfl, hl⟩
    have HL := Lib.hid (Left.pre B0.out HKW.out ((ST2.out.below (by have := HKW.out; simp; omega) HB4.out).left hl))
    clear hl
    go_wp2
    go_ret
    exact ⟨rfl, HL.out⟩
  · rw [if_neg he]
    have he' : (twoE s k2 k1 x1 == 0) = false := by simpa using he
    have he2 : (twoE s k2 k1 x1 != 0) = true := by simpa using he
    clear he
    generalize hq : twoE s k2 k1 x1 = q at *
    have HQ := Lib.hid hq
    clear hq
    go_enter Tryd.func99, Tryd.ntmps99
    go_wp2_with fail
    refine P0.out.mono ?_
    rintro e w1 ⟨rfl, hl1⟩
    obtain ⟨sv1, kv1, hm1, st1⟩ := hl1.step
    have ST := Lib.hid st1
    have P1 := Lib.hid (pop_any M _ K sv1 kv1 S1 hm1)
    rw [HR2.out] at P1
    clear hm1 st1 hl1
    go_wp2_with fail
    refine P1.out.mono ?_
    rintro e w2 ⟨rfl, hl2⟩
    obtain ⟨sv2, kv2, hm2, st2⟩ := hl2.step
    have st2' := ST.out.trans st2
    have o2 : w2.cell? ⟨w.heap.size, 2, none⟩ = some (.int .i64 s) := (st2'.cell (by simp) HFN.out 2).trans (by go_simp)
    have hz2 : w.heap.size < w2.heap.size := by have := st2'.fr.size; simp at this; omega
    have HM2 := Lib.hid hm2
    have ST2 := Lib.hid st2'
    clear hm2 st2 hl2 st2'
    go_wp2_with fail
    refine (PT.out _).mono ?_
    rintro e w3 ⟨rfl, hb3⟩
    have HL := Lib.hid (Left.pre B0.out HKW.out ((ST2.out.mach HM2.out).post hb3))
    clear hb3 o2
    go_wp2
    go_ret
    exact ⟨rfl, HL.out⟩
end Go.Proofs.YtngobbbinacomaaDoor

/- Chapter 14: what an instruction does with cells. -/
namespace Go.Proofs.YtngobbbinacomaaDoor
open Go.RowKit Go.Proofs.YtngobbbinacomaaDoor.c11
set_option linter.unusedVariables false
set_option linter.unusedSimpArgs false
attribute [local go_sem ↓] Go.wp_at_zero Go.wp_at_succ
/-- A cell written. -/
theorem Mach.store {M : Who} {w : World} {K : Nat} {sv kv : Value} {S : St} (h : Mach M w K sv kv S) {cb cap : Nat} (hC : M.C = .slice (some ⟨cb, 0, none⟩) S.cells.length cap) (j : Nat) (x : Int) :
    Mach M (w.setCell ⟨cb, j, none⟩ (.int .i64 x)) K sv kv { S with cells := S.cells.set j x } ∧ Step M K w sv kv (w.setCell ⟨cb, j, none⟩ (.int .i64 x)) sv kv := by
  have hob : M.C.ownBlock = some cb := by rw [hC]; rfl
  have hcg := (h.cK cb hob).2
  have hfr : Fr M K w (w.setCell ⟨cb, j, none⟩ (.int .i64 x)) := ⟨rfl, rfl, rfl, by simp [World.setCell], fun b _ _ h2 => Below.heap_setCell w ⟨cb, j, none⟩ _ b (fun e => h2 (by rw [hob, e]))⟩
  have hcells := h.cells
  rw [hC] at hcells
  have hst := (hcells.stored j (.int .i64 x)).1
  refine ⟨h.fr hfr ((Below.heap_setCell w ⟨cb, j, none⟩ _ M.g (Ne.symm hcg)).trans h.blk) ?_ (own_setFar h.stk ?_ _) (own_setFar h.knd ?_ _) h.apart h.bud h.hi, ⟨hfr, fun b hb f => ⟨Below.heap_setCell w ⟨cb, j, none⟩ _ b (fun e => f.c (by rw [hob, e])), f⟩⟩⟩
  · show World.ownsRow _ _ _ _ M.C (S.cells.set j x).length ((S.cells.set j x).map _)
    rw [List.length_set, List.map_set, hC]
    exact hst
  · intro e
    rcases h.c_stk with h0 | h0
    · rw [hob] at h0; cases h0
    · exact h0 (hob.trans e.symm)
  · intro e
    rcases h.c_knd with h0 | h0
    · rw [hob] at h0; cases h0
    · exact h0 (hob.trans e.symm)
/-- The cells' row, where there is a cell. -/
theorem Mach.row {M : Who} {w : World} {K : Nat} {sv kv : Value} {S : St} (h : Mach M w K sv kv S) (hn : 0 < S.cells.length) : ∃ cb cap, M.C = .slice (some ⟨cb, 0, none⟩) S.cells.length cap ∧ cb < K ∧ cb ≠ M.g ∧ (S.cells.length ≤ cap ∧ cap ≤ 9223372036854775807) ∧ w.frozen? ⟨cb, 0, none⟩ = false ∧
    ∀ j x, S.cells[j]? = some x → w.cell? ⟨cb, j, none⟩ = some (.int .i64 x) ∧ w.frozen? ⟨cb, j, none⟩ = false := by
  obtain ⟨cb, cap, hC, _, _⟩ := h.cells.form hn
  have hob : M.C.ownBlock = some cb := by rw [hC]; rfl
  have hk := h.cK cb hob
  have hc := h.cells
  rw [hC] at hc
  obtain ⟨_, c', e, h1, h2⟩ := own_slice hc
  have hcc : cap = c' := by injection e
  subst hcc
  refine ⟨cb, cap, hC, hk.1, hk.2, ⟨h1, h2⟩, hc.frozenAt 0, fun j x hj => ⟨?_, hc.frozenAt j⟩⟩
  have := hc.cells (g := cb) rfl j (.int .i64 x) (by simp [hj])
  rw [Addr.add_lit, Nat.zero_add] at this
  exact this
theorem field_kind (p : ByteArray) (k : Int) (r : Bool) (i l b : Int) (w : World) : (Instr.field 42 (.agg #[.string p, .int .i64 k, .bool r, .int .i64 i, .int .i64 l, .int .i64 b]) 1).run Tryd.prog w = .ok (.int .i64 k) w := by kernel_rfl
theorem field_len (p : ByteArray) (k : Int) (r : Bool) (i l b : Int) (w : World) : (Instr.field 42 (.agg #[.string p, .int .i64 k, .bool r, .int .i64 i, .int .i64 l, .int .i64 b]) 4).run Tryd.prog w = .ok (.int .i64 l) w := by kernel_rfl
theorem field_block (p : ByteArray) (k : Int) (r : Bool) (i l b : Int) (w : World) : (Instr.field 42 (.agg #[.string p, .int .i64 k, .bool r, .int .i64 i, .int .i64 l, .int .i64 b]) 5).run Tryd.prog w = .ok (.int .i64 b) w := by kernel_rfl
/-- The cell that an index leads to, and its error. -/
def indexP (E : Env) (n : Nat) (at_ i : Int) : Int × Int := if i < 0 ∨ (cellD E.lay at_).len ≤ i ∨ isAt n (at_ + i) = false then (0, 22) else (at_ + i, 0)
set_option maxHeartbeats 4000000 in
set_option maxRecDepth 100000 in
theorem index_any (M : Who) (w : World) (K : Nat) (sv kv : Value) (S : St) (h : Mach M w K sv kv S) (at_ i : Int) (ha : 0 ≤ at_ ∧ at_ ≤ 1000000) (hlen : (cellD M.E.lay at_).len ≤ 1000000) :
    Calls Tryd.prog 97 #[.pointer (some ⟨M.g, 0, none⟩), .int .i64 at_, .int .i64 i] w fun e w' => e = .returned (.tuple #[.int .i64 (indexP M.E S.cells.length at_ i).1, .int .i64 (indexP M.E S.cells.length at_ i).2]) ∧ Below w.heap.size w w' := by
  obtain ⟨Ac, cc, hC, hcc, hcm⟩ := own_slice h.cells
  unfold maxLen at hcm
  have m0 : w.cell? ⟨M.g, 0, none⟩ = some (.slice Ac S.cells.length cc) := by rw [← hC]; exact h.cell 0
  have CE := Lib.hid (cell_any M w K sv kv S h at_)
  have hgw := h.gw
  have hn : (S.cells.length : Int) ≤ 9223372036854775807 := by omega
  obtain ⟨⟨p, kd, rt, ini, ln, bl⟩, hcd⟩ : ∃ c, cellD M.E.lay at_ = c := ⟨_, rfl⟩
  rw [hcd] at CE hlen
  simp only at CE hlen
  obtain ⟨h1a, h1b⟩ := ha
  have fl := field_len
  by_cases h1 : i < 0
  · rw [show indexP M.E S.cells.length at_ i = (0, 22) by simp [indexP, h1]]
    clear h hC CE hcd
    go_enter Tryd.func97, Tryd.ntmps97
    go_wp2
    go_ret2
    exact ⟨rfl, Below.refl _ _⟩
  have h1' : decide (i < 0) = false := by simpa using h1
  by_cases h2 : ln ≤ i
  · rw [show indexP M.E S.cells.length at_ i = (0, 22) by simp [indexP, hcd, h2]]
    clear h hC hcd
    go_enter Tryd.func97, Tryd.ntmps97
    go_wp2_with (go_at_call 96; (with_reducible refine CE.out.mono ?_); rintro e w1 ⟨rfl, hb1⟩; have HB1 := Lib.hid hb1; clear hb1)
    go_ret2
    exact ⟨rfl, HB1.out⟩
  have h2' : decide (ln ≤ i) = false := by simpa using h2
  have hs1 : IntKind.i64.wrap (at_ + i) = at_ + i := by rw [IntKind.wrap_i64]; omega
  have AT := Lib.hid (fun (u : World) (hu : u.cell? ⟨M.g, 0, none⟩ = some (.slice Ac S.cells.length cc)) => at_any M.g S.cells.length cc Ac (at_ + i) u hu hn)
  cases h3 : isAt S.cells.length (at_ + i) with
  | false =>
    rw [show indexP M.E S.cells.length at_ i = (0, 22) by simp [indexP, hcd, h3]]
    rw [h3] at AT
    clear h hC hcd h3
    go_enter Tryd.func97, Tryd.ntmps97
    go_wp2_with (first | (go_at_call 96; (with_reducible refine CE.out.mono ?_); rintro e w1 ⟨rfl, hb1⟩; have m0' := (dcell hb1 hgw 0).trans m0; have HB1 := Lib.hid hb1; clear hb1) | (go_at_call 95; (with_reducible refine (AT.out _ m0').mono ?_); rintro e w' ⟨rfl, rfl⟩))
    go_ret2
    exact ⟨rfl, HB1.out⟩
  | true =>
    rw [show indexP M.E S.cells.length at_ i = (at_ + i, 0) by simp [indexP, hcd, h1, h2, h3]]
    rw [h3] at AT
    clear h hC hcd h3
    go_enter Tryd.func97, Tryd.ntmps97
    go_wp2_with (first | (go_at_call 96; (with_reducible refine CE.out.mono ?_); rintro e w1 ⟨rfl, hb1⟩; have m0' := (dcell hb1 hgw 0).trans m0; have HB1 := Lib.hid hb1; clear hb1) | (go_at_call 95; (with_reducible refine (AT.out _ m0').mono ?_); rintro e w' ⟨rfl, rfl⟩))
    go_ret2
    exact ⟨rfl, HB1.out⟩
end Go.Proofs.YtngobbbinacomaaDoor
