/- Chapter 14: the document's step: Drop, Dup, Not, Conv. -/
import Derived.Test.YtngobbbinacomaaDoorQ37
namespace Go.Proofs.YtngobbbinacomaaDoor
open Go.RowKit Go.Proofs.YtngobbbinacomaaDoor.c11 Go.Proofs.YtngobbbinacomaaDoor.c10 Go.Proofs.YtngobbbinacomaaDoor.c13
set_option linter.unusedVariables false
set_option linter.unusedSimpArgs false
attribute [local go_sem ↓] Go.wp_at_zero Go.wp_at_succ
/-- The last ones taken away. -/
theorem own_pop2 {w : World} {base : Nat} {e : TypeId} {A : Option Addr} {n cap k : Nat} {xs : List Value} (h : w.ownsRow base e 2 (.slice A n cap) n xs) (hk : k ≤ n) (hn : 0 < n) : w.ownsRow base e 2 (.slice A k cap) k (xs.take (k * 2)) := by
  rcases h.2 with ⟨_, h0⟩ | ⟨g, c, cur, hv, hb, hg, hnc, hcm, hcs, ht⟩
  · omega
  · injection hv with h1 h2 h3
    subst h1 h3
    refine ⟨by rw [List.length_take, h.1]; omega, .inr ⟨g, cap, cur, rfl, hb, hg, by omega, hcm, hcs, ?_⟩⟩
    rw [← ht, List.take_take]
    congr 1
    omega
/-- The machine, nothing done but to the stack. -/
theorem step_none {M : RWho} {K : Nat} {w wa : World} {S S' : St} (h : RMach M w S) (hKw : K ≤ w.heap.size) (hba : Below w.heap.size w wa) (he : M.arr S' = M.arr S ∧ S'.cells = S.cells ∧ S'.used = S.used ∧ S'.left = S.left) : RMach M wa S' ∧ RFr M K w wa := by
  have hma := h.below hba
  refine ⟨⟨by rw [he.1]; exact hma.box, by rw [he.2.1]; exact hma.row, hma.stat, hma.kg, hma.ne, by rw [he.2.2.1, he.2.2.2]; exact hma.bud, by rw [he.2.1]; exact hma.cells⟩, (RFr.refl M K w).below hba hKw⟩
set_option maxHeartbeats 4000000 in
set_option maxRecDepth 100000 in
theorem rstep_drop (M : RWho) (w : World) (S : St) (h : RMach M w S) (K : Nat) (hKw : K ≤ w.heap.size) (hg : M.g < K) (hc : M.cg < K) (v : Value) (hv : StackAt w K v S.stk) (hh : S.stk.length ≤ 1000000) (a0 a1 N : Int) (a : Nat) (r : List (Int × Int)) (kb xb : Int) (hs : S.stk = r ++ [(kb, xb)])  :
    Calls Tryd.prog 56 #[.pointer (some ⟨M.g, 0, none⟩), .agg #[.int .i64 a0, .int .i64 a1, .int .i64 22, .int .i64 (a : Int), .int .i64 N], v] w (StepPost M K w (({ S with stk := r } : St), 0)) := by
  have hl : S.stk.length = r.length + 1 := by rw [hs]; simp
  obtain ⟨sg, c, hvv, hsg, hsw⟩ := World.ownsRow.form hv (by omega)
  subst hvv
  obtain ⟨_, c', hvc, hlc, hcm⟩ := own_slice hv
  obtain rfl : c = c' := by injection hvc
  unfold maxLen at hcm
  obtain ⟨i0, hi, hz0, hz1, hz2⟩ := info_parts valInfo
  have t22 := valTy
  have TK := Lib.hid (fun u => rtakes_any 22 u)
  rw [show takesN 22 = 1 from rfl] at TK
  have HM := Lib.hid h
  have hv2 : w.ownsRow K 106 2 (.slice (some ⟨sg, 0, none⟩) (r.length + 1) c) (r.length + 1) (valRow r ++ valCells (kb, xb)) := by
    have h2 := hv
    unfold StackAt at h2
    rw [hl, hs, valRow_app] at h2
    exact h2
  have s0 : w.cell? ⟨sg, r.length * 2, none⟩ = some (.int .i64 kb) := by
    have h3 := hv2.cells rfl (r.length * 2) (.int .i64 kb) (by rw [List.getElem?_append_right (by rw [valRow_length]; omega), valRow_length]; simp [valCells])
    rw [Addr.add_lit, Nat.zero_add] at h3
    exact h3
  have s1 : w.cell? ⟨sg, r.length * 2 + 1, none⟩ = some (.int .i64 xb) := by
    have h3 := hv2.cells rfl (r.length * 2 + 1) (.int .i64 xb) (by rw [List.getElem?_append_right (by rw [valRow_length]; omega), valRow_length]; simp [valCells])
    rw [Addr.add_lit, Nat.zero_add] at h3
    exact h3
  have hpop : w.ownsRow K 106 2 (.slice (some ⟨sg, 0, none⟩) r.length c) r.length (valRow r) := by
    have h3 := own_pop2 hv2 (k := r.length) (by omega) (by omega)
    rwa [List.take_left' (by rw [valRow_length])] at h3
  have HV := Lib.hid hpop
  have HS := Lib.hid hs
  rw [hl] at hlc hh hv ⊢
  have hlc1 : ((r.length + 1 : Nat) : Int) ≤ c := by omega
  have hlc2 : (c : Int) ≤ 9223372036854775807 := by omega
  have hlc4 : (r.length : Int) ≤ 1000000 := by omega
  have hlc5 : (r.length : Int) + 1 ≤ c := by omega
  have hlc6 : (r.length : Int) ≤ c := by omega
  have hgw := h.gw
  have hcw := h.cw
  have hkK : M.K ≤ M.g := h.kg
  have hgw1 : M.g < w.heap.size + 1 := by omega
  have hgw2 : M.g < w.heap.size + 1 + 1 := by omega
  have hgw3 : M.g < w.heap.size + 1 + 1 + 1 := by omega
  have hgn0 : ¬ M.g = w.heap.size := by omega
  have hgn1 : ¬ M.g = w.heap.size + 1 := by omega
  have hgn2 : ¬ M.g = w.heap.size + 1 + 1 := by omega
  have hcw1 : M.cg < w.heap.size + 1 := by omega
  have hcw2 : M.cg < w.heap.size + 1 + 1 := by omega
  have hcw3 : M.cg < w.heap.size + 1 + 1 + 1 := by omega
  have hsw1 : sg < w.heap.size + 1 := by omega
  have hsw2 : sg < w.heap.size + 1 + 1 := by omega
  have hsw3 : sg < w.heap.size + 1 + 1 + 1 := by omega
  have HNE := Lib.hid (show ∀ b, (b < K ∨ w.heap.size ≤ b) → (Value.slice (some ⟨sg, 0, none⟩) r.length c).ownBlock ≠ some b from fun b hb e => by have := hpop.lt b e; omega)
  obtain ⟨n, hn⟩ : ∃ n, r.length = n := ⟨_, rfl⟩
  have HN := Lib.hid hn
  rw [hn] at hlc hlc1 hlc4 hlc5 hlc6 hh HNE s0 s1 hpop HV ⊢
  clear h hv hv2 hs hl hn hvc hpop
  go_enter Tryd.func56, Tryd.ntmps56
  go_wp2_with fail
  refine (TK.out _).mono ?_
  rintro e _ ⟨rfl, rfl⟩
  go_wp2_with fail
  go_ret2
  refine ⟨_, rfl, fun _ => ?_, step_none (S' := { S with stk := r }) HM.out hKw (by repeat (first | (with_reducible exact Below.refl _ _) | (with_reducible refine Below.setCell ?_ (by first | omega | (simp; done) | (simp; omega)) _) | (with_reducible refine Below.drew ?_) | (with_reducible refine below_dN _ ?_) | (with_reducible refine Below.alloc ?_ (by first | omega | (simp; done) | (simp; omega)) _))) ⟨rfl, rfl, rfl, rfl⟩⟩
  unfold StackAt
  rw [show ({ S with stk := r } : St).stk.length = n from HN.out]
  exact row_keep HV.out (by repeat (first | (with_reducible exact Below.refl _ _) | (with_reducible refine Below.setCell ?_ (by first | omega | (simp; done) | (simp; omega)) _) | (with_reducible refine Below.drew ?_) | (with_reducible refine below_dN _ ?_) | (with_reducible refine Below.alloc ?_ (by first | omega | (simp; done) | (simp; omega)) _)))
set_option maxHeartbeats 4000000 in
set_option maxRecDepth 100000 in
theorem rstep_not (M : RWho) (w : World) (S : St) (h : RMach M w S) (K : Nat) (hKw : K ≤ w.heap.size) (hg : M.g < K) (hc : M.cg < K) (v : Value) (hv : StackAt w K v S.stk) (hh : S.stk.length ≤ 1000000) (a0 a1 N : Int) (a : Nat) (r : List (Int × Int)) (kb xb : Int) (hs : S.stk = r ++ [(kb, xb)])  :
    Calls Tryd.prog 56 #[.pointer (some ⟨M.g, 0, none⟩), .agg #[.int .i64 a0, .int .i64 a1, .int .i64 15, .int .i64 (a : Int), .int .i64 N], v] w (StepPost M K w (pushS ({ S with stk := r } : St) kb [notK kb xb], 0)) := by
  have hl : S.stk.length = r.length + 1 := by rw [hs]; simp
  obtain ⟨sg, c, hvv, hsg, hsw⟩ := World.ownsRow.form hv (by omega)
  subst hvv
  obtain ⟨_, c', hvc, hlc, hcm⟩ := own_slice hv
  obtain rfl : c = c' := by injection hvc
  unfold maxLen at hcm
  obtain ⟨i0, hi, hz0, hz1, hz2⟩ := info_parts valInfo
  have t22 := valTy
  have TK := Lib.hid (fun u => rtakes_any 15 u)
  rw [show takesN 15 = 1 from rfl] at TK
  have HM := Lib.hid h
  have hv2 : w.ownsRow K 106 2 (.slice (some ⟨sg, 0, none⟩) (r.length + 1) c) (r.length + 1) (valRow r ++ valCells (kb, xb)) := by
    have h2 := hv
    unfold StackAt at h2
    rw [hl, hs, valRow_app] at h2
    exact h2
  have s0 : w.cell? ⟨sg, r.length * 2, none⟩ = some (.int .i64 kb) := by
    have h3 := hv2.cells rfl (r.length * 2) (.int .i64 kb) (by rw [List.getElem?_append_right (by rw [valRow_length]; omega), valRow_length]; simp [valCells])
    rw [Addr.add_lit, Nat.zero_add] at h3
    exact h3
  have s1 : w.cell? ⟨sg, r.length * 2 + 1, none⟩ = some (.int .i64 xb) := by
    have h3 := hv2.cells rfl (r.length * 2 + 1) (.int .i64 xb) (by rw [List.getElem?_append_right (by rw [valRow_length]; omega), valRow_length]; simp [valCells])
    rw [Addr.add_lit, Nat.zero_add] at h3
    exact h3
  have hpop : w.ownsRow K 106 2 (.slice (some ⟨sg, 0, none⟩) r.length c) r.length (valRow r) := by
    have h3 := own_pop2 hv2 (k := r.length) (by omega) (by omega)
    rwa [List.take_left' (by rw [valRow_length])] at h3
  have HV := Lib.hid hpop
  have HS := Lib.hid hs
  rw [hl] at hlc hh hv ⊢
  have hlc1 : ((r.length + 1 : Nat) : Int) ≤ c := by omega
  have hlc2 : (c : Int) ≤ 9223372036854775807 := by omega
  have hlc4 : (r.length : Int) ≤ 1000000 := by omega
  have hlc5 : (r.length : Int) + 1 ≤ c := by omega
  have hlc6 : (r.length : Int) ≤ c := by omega
  have hgw := h.gw
  have hcw := h.cw
  have hkK : M.K ≤ M.g := h.kg
  have hgw1 : M.g < w.heap.size + 1 := by omega
  have hgw2 : M.g < w.heap.size + 1 + 1 := by omega
  have hgw3 : M.g < w.heap.size + 1 + 1 + 1 := by omega
  have hgn0 : ¬ M.g = w.heap.size := by omega
  have hgn1 : ¬ M.g = w.heap.size + 1 := by omega
  have hgn2 : ¬ M.g = w.heap.size + 1 + 1 := by omega
  have hcw1 : M.cg < w.heap.size + 1 := by omega
  have hcw2 : M.cg < w.heap.size + 1 + 1 := by omega
  have hcw3 : M.cg < w.heap.size + 1 + 1 + 1 := by omega
  have hsw1 : sg < w.heap.size + 1 := by omega
  have hsw2 : sg < w.heap.size + 1 + 1 := by omega
  have hsw3 : sg < w.heap.size + 1 + 1 + 1 := by omega
  have NT := Lib.hid (fun u => rnot_any kb xb u)
  generalize hyy : notK kb xb = y at *
  clear hyy
  have HNE := Lib.hid (show ∀ b, (b < K ∨ w.heap.size ≤ b) → (Value.slice (some ⟨sg, 0, none⟩) r.length c).ownBlock ≠ some b from fun b hb e => by have := hpop.lt b e; omega)
  obtain ⟨n, hn⟩ : ∃ n, r.length = n := ⟨_, rfl⟩
  have HN := Lib.hid hn
  rw [hn] at hlc hlc1 hlc4 hlc5 hlc6 hh HNE s0 s1 hpop HV ⊢
  clear h hv hv2 hs hl hn hvc hpop
  go_enter Tryd.func56, Tryd.ntmps56
  go_wp2_with fail
  refine (TK.out _).mono ?_
  rintro e _ ⟨rfl, rfl⟩
  go_wp2_with fail
  go_region_held3 (fun w' => w'.cell? ⟨w.heap.size + 1 + 1, 0, none⟩ = some (.int .i64 kb) ∧ w'.cell? ⟨w.heap.size + 1 + 1, 1, none⟩ = some (.int .i64 xb)) (first | exact ⟨z0, z1⟩ | exact ⟨(by go_simp), (by go_simp)⟩ | go_keep)
    (first | (go_at_call 77; (with_reducible refine (NT.out _).mono ?_); rintro e w' ⟨rfl, rfl⟩) | (refine step_append_ownV rfl _ _ 102 rfl K 106 i0 _ 2 16 t22 hi hz0 hz1 hz2 rfl (by decide) (.slice (some ⟨sg, 0, none⟩) n c) n (valRow r) rfl (row_keep HV.out (by repeat (first | (with_reducible exact Below.refl _ _) | (with_reducible refine Below.setCell ?_ (by first | omega | (simp; done) | (simp; omega)) _) | (with_reducible refine Below.drew ?_) | (with_reducible refine below_dN _ ?_) | (with_reducible refine Below.alloc ?_ (by first | omega | (simp; done) | (simp; omega)) _)))) ⟨_, 0, none⟩ 1 1 (valCells (kb, y)) rfl rfl (vals_news (by go_simp) (by go_simp)) (valCells_one _) (by unfold maxLen; omega) (by omega) (by first | omega | (simp; done) | (simp; omega)) ?_; intro v1 w1 hown hgrow hnil; have z0 : w1.cell? ⟨w.heap.size + 1 + 1, 0, none⟩ = some (.int .i64 kb) := grown_cell hgrow (HNE.out _ (by first | omega | (simp; done) | (simp; omega))) (by go_simp); have z1 : w1.cell? ⟨w.heap.size + 1 + 1, 1, none⟩ = some (.int .i64 xb) := grown_cell hgrow (HNE.out _ (by first | omega | (simp; done) | (simp; omega))) (by go_simp); have hsa := step_app (S' := pushS ({ S with stk := r } : St) (kb) [y]) HM.out (fun k hk => (HV.out.lt k hk).1) hKw hg hc (by repeat (first | (with_reducible exact Below.refl _ _) | (with_reducible refine Below.setCell ?_ (by first | omega | (simp; done) | (simp; omega)) _) | (with_reducible refine Below.drew ?_) | (with_reducible refine below_dN _ ?_) | (with_reducible refine Below.alloc ?_ (by first | omega | (simp; done) | (simp; omega)) _))) hgrow ⟨rfl, rfl, rfl, rfl⟩; obtain ⟨A1, C1, rfl, _, _⟩ := own_slice hown; have HSA := Lib.hid hsa; have HO1 := Lib.hid hown; clear hown hgrow hnil hsa))
  all_goals (try go_wp2_with fail)
  all_goals go_ret2
  all_goals (refine ⟨_, rfl, fun _ => ?_, HSA.out.1, HSA.out.2⟩; have h1 := HO1.out; unfold StackAt; rw [show (pushS ({ S with stk := r } : St) (kb) [y]).stk = r ++ [(kb, y)] from rfl, valRow_app, List.length_append, HN.out]; exact h1)
set_option maxHeartbeats 4000000 in
set_option maxRecDepth 100000 in
theorem rstep_conv (M : RWho) (w : World) (S : St) (h : RMach M w S) (K : Nat) (hKw : K ≤ w.heap.size) (hg : M.g < K) (hc : M.cg < K) (v : Value) (hv : StackAt w K v S.stk) (hh : S.stk.length ≤ 1000000) (a0 a1 N : Int) (a : Nat) (r : List (Int × Int)) (kb xb : Int) (hs : S.stk = r ++ [(kb, xb)])  :
    Calls Tryd.prog 56 #[.pointer (some ⟨M.g, 0, none⟩), .agg #[.int .i64 a0, .int .i64 a1, .int .i64 23, .int .i64 (a : Int), .int .i64 N], v] w (StepPost M K w (pushS ({ S with stk := r } : St) a [wrapK a xb], 0)) := by
  have hl : S.stk.length = r.length + 1 := by rw [hs]; simp
  obtain ⟨sg, c, hvv, hsg, hsw⟩ := World.ownsRow.form hv (by omega)
  subst hvv
  obtain ⟨_, c', hvc, hlc, hcm⟩ := own_slice hv
  obtain rfl : c = c' := by injection hvc
  unfold maxLen at hcm
  obtain ⟨i0, hi, hz0, hz1, hz2⟩ := info_parts valInfo
  have t22 := valTy
  have TK := Lib.hid (fun u => rtakes_any 23 u)
  rw [show takesN 23 = 1 from rfl] at TK
  have HM := Lib.hid h
  have hv2 : w.ownsRow K 106 2 (.slice (some ⟨sg, 0, none⟩) (r.length + 1) c) (r.length + 1) (valRow r ++ valCells (kb, xb)) := by
    have h2 := hv
    unfold StackAt at h2
    rw [hl, hs, valRow_app] at h2
    exact h2
  have s0 : w.cell? ⟨sg, r.length * 2, none⟩ = some (.int .i64 kb) := by
    have h3 := hv2.cells rfl (r.length * 2) (.int .i64 kb) (by rw [List.getElem?_append_right (by rw [valRow_length]; omega), valRow_length]; simp [valCells])
    rw [Addr.add_lit, Nat.zero_add] at h3
    exact h3
  have s1 : w.cell? ⟨sg, r.length * 2 + 1, none⟩ = some (.int .i64 xb) := by
    have h3 := hv2.cells rfl (r.length * 2 + 1) (.int .i64 xb) (by rw [List.getElem?_append_right (by rw [valRow_length]; omega), valRow_length]; simp [valCells])
    rw [Addr.add_lit, Nat.zero_add] at h3
    exact h3
  have hpop : w.ownsRow K 106 2 (.slice (some ⟨sg, 0, none⟩) r.length c) r.length (valRow r) := by
    have h3 := own_pop2 hv2 (k := r.length) (by omega) (by omega)
    rwa [List.take_left' (by rw [valRow_length])] at h3
  have HV := Lib.hid hpop
  have HS := Lib.hid hs
  rw [hl] at hlc hh hv ⊢
  have hlc1 : ((r.length + 1 : Nat) : Int) ≤ c := by omega
  have hlc2 : (c : Int) ≤ 9223372036854775807 := by omega
  have hlc4 : (r.length : Int) ≤ 1000000 := by omega
  have hlc5 : (r.length : Int) + 1 ≤ c := by omega
  have hlc6 : (r.length : Int) ≤ c := by omega
  have hgw := h.gw
  have hcw := h.cw
  have hkK : M.K ≤ M.g := h.kg
  have hgw1 : M.g < w.heap.size + 1 := by omega
  have hgw2 : M.g < w.heap.size + 1 + 1 := by omega
  have hgw3 : M.g < w.heap.size + 1 + 1 + 1 := by omega
  have hgn0 : ¬ M.g = w.heap.size := by omega
  have hgn1 : ¬ M.g = w.heap.size + 1 := by omega
  have hgn2 : ¬ M.g = w.heap.size + 1 + 1 := by omega
  have hcw1 : M.cg < w.heap.size + 1 := by omega
  have hcw2 : M.cg < w.heap.size + 1 + 1 := by omega
  have hcw3 : M.cg < w.heap.size + 1 + 1 + 1 := by omega
  have hsw1 : sg < w.heap.size + 1 := by omega
  have hsw2 : sg < w.heap.size + 1 + 1 := by omega
  have hsw3 : sg < w.heap.size + 1 + 1 + 1 := by omega
  have NT := Lib.hid (fun u => rconv_any kb a xb u)
  generalize hyy : wrapK (a : Int) xb = y at *
  clear hyy
  have HNE := Lib.hid (show ∀ b, (b < K ∨ w.heap.size ≤ b) → (Value.slice (some ⟨sg, 0, none⟩) r.length c).ownBlock ≠ some b from fun b hb e => by have := hpop.lt b e; omega)
  obtain ⟨n, hn⟩ : ∃ n, r.length = n := ⟨_, rfl⟩
  have HN := Lib.hid hn
  rw [hn] at hlc hlc1 hlc4 hlc5 hlc6 hh HNE s0 s1 hpop HV ⊢
  clear h hv hv2 hs hl hn hvc hpop
  go_enter Tryd.func56, Tryd.ntmps56
  go_wp2_with fail
  refine (TK.out _).mono ?_
  rintro e _ ⟨rfl, rfl⟩
  go_wp2_with fail
  go_region_held3 (fun w' => w'.cell? ⟨w.heap.size, 3, none⟩ = some (.int .i64 (a : Int)) ∧ w'.cell? ⟨w.heap.size + 1 + 1, 0, none⟩ = some (.int .i64 kb) ∧ w'.cell? ⟨w.heap.size + 1 + 1, 1, none⟩ = some (.int .i64 xb)) (first | exact ⟨z2, z0, z1⟩ | exact ⟨(by go_simp), (by go_simp), (by go_simp)⟩ | go_keep)
    (first | (go_at_call 78; (with_reducible refine (NT.out _).mono ?_); rintro e w' ⟨rfl, rfl⟩) | (refine step_append_ownV rfl _ _ 102 rfl K 106 i0 _ 2 16 t22 hi hz0 hz1 hz2 rfl (by decide) (.slice (some ⟨sg, 0, none⟩) n c) n (valRow r) rfl (row_keep HV.out (by repeat (first | (with_reducible exact Below.refl _ _) | (with_reducible refine Below.setCell ?_ (by first | omega | (simp; done) | (simp; omega)) _) | (with_reducible refine Below.drew ?_) | (with_reducible refine below_dN _ ?_) | (with_reducible refine Below.alloc ?_ (by first | omega | (simp; done) | (simp; omega)) _)))) ⟨_, 0, none⟩ 1 1 (valCells ((a : Int), y)) rfl rfl (vals_news (by go_simp) (by go_simp)) (valCells_one _) (by unfold maxLen; omega) (by omega) (by first | omega | (simp; done) | (simp; omega)) ?_; intro v1 w1 hown hgrow hnil; have z2 : w1.cell? ⟨w.heap.size, 3, none⟩ = some (.int .i64 (a : Int)) := grown_cell hgrow (HNE.out _ (by first | omega | (simp; done) | (simp; omega))) (by go_simp); have z0 : w1.cell? ⟨w.heap.size + 1 + 1, 0, none⟩ = some (.int .i64 kb) := grown_cell hgrow (HNE.out _ (by first | omega | (simp; done) | (simp; omega))) (by go_simp); have z1 : w1.cell? ⟨w.heap.size + 1 + 1, 1, none⟩ = some (.int .i64 xb) := grown_cell hgrow (HNE.out _ (by first | omega | (simp; done) | (simp; omega))) (by go_simp); have hsa := step_app (S' := pushS ({ S with stk := r } : St) ((a : Int)) [y]) HM.out (fun k hk => (HV.out.lt k hk).1) hKw hg hc (by repeat (first | (with_reducible exact Below.refl _ _) | (with_reducible refine Below.setCell ?_ (by first | omega | (simp; done) | (simp; omega)) _) | (with_reducible refine Below.drew ?_) | (with_reducible refine below_dN _ ?_) | (with_reducible refine Below.alloc ?_ (by first | omega | (simp; done) | (simp; omega)) _))) hgrow ⟨rfl, rfl, rfl, rfl⟩; obtain ⟨A1, C1, rfl, _, _⟩ := own_slice hown; have HSA := Lib.hid hsa; have HO1 := Lib.hid hown; clear hown hgrow hnil hsa))
  all_goals (try go_wp2_with fail)
  all_goals go_ret2
  all_goals (refine ⟨_, rfl, fun _ => ?_, HSA.out.1, HSA.out.2⟩; have h1 := HO1.out; unfold StackAt; rw [show (pushS ({ S with stk := r } : St) ((a : Int)) [y]).stk = r ++ [((a : Int), y)] from rfl, valRow_app, List.length_append, HN.out]; exact h1)
theorem vals_news2 {W : World} {g : Nat} {a b a' b' : Int} (h0 : W.cell? ⟨g, 0, none⟩ = some (.int .i64 a)) (h1 : W.cell? ⟨g, 1, none⟩ = some (.int .i64 b)) (h2 : W.cell? ⟨g, 2, none⟩ = some (.int .i64 a')) (h3 : W.cell? ⟨g, 3, none⟩ = some (.int .i64 b')) : ∀ (j : Nat) (u : Value), (valCells (a, b) ++ valCells (a', b'))[j]? = some u → W.cell? ((⟨g, 0, none⟩ : Addr).add j) = some u := by
  intro j u hj
  rw [Addr.add_lit]
  rcases j with _ | _ | _ | _ | j
  · simp [valCells] at hj; subst hj; simpa using h0
  · simp [valCells] at hj; subst hj; simpa using h1
  · simp [valCells] at hj; subst hj; simpa using h2
  · simp [valCells] at hj; subst hj; simpa using h3
  · simp [valCells] at hj
set_option maxHeartbeats 4000000 in
set_option maxRecDepth 100000 in
theorem rstep_dup (M : RWho) (w : World) (S : St) (h : RMach M w S) (K : Nat) (hKw : K ≤ w.heap.size) (hg : M.g < K) (hc : M.cg < K) (v : Value) (hv : StackAt w K v S.stk) (hh : S.stk.length ≤ 1000000) (a0 a1 N : Int) (a : Nat) (r : List (Int × Int)) (kb xb : Int) (hs : S.stk = r ++ [(kb, xb)])  :
    Calls Tryd.prog 56 #[.pointer (some ⟨M.g, 0, none⟩), .agg #[.int .i64 a0, .int .i64 a1, .int .i64 21, .int .i64 (a : Int), .int .i64 N], v] w (StepPost M K w (pushS ({ S with stk := r } : St) kb [xb, xb], 0)) := by
  have hl : S.stk.length = r.length + 1 := by rw [hs]; simp
  obtain ⟨sg, c, hvv, hsg, hsw⟩ := World.ownsRow.form hv (by omega)
  subst hvv
  obtain ⟨_, c', hvc, hlc, hcm⟩ := own_slice hv
  obtain rfl : c = c' := by injection hvc
  unfold maxLen at hcm
  obtain ⟨i0, hi, hz0, hz1, hz2⟩ := info_parts valInfo
  have t22 := valTy
  have TK := Lib.hid (fun u => rtakes_any 21 u)
  rw [show takesN 21 = 1 from rfl] at TK
  have HM := Lib.hid h
  have hv2 : w.ownsRow K 106 2 (.slice (some ⟨sg, 0, none⟩) (r.length + 1) c) (r.length + 1) (valRow r ++ valCells (kb, xb)) := by
    have h2 := hv
    unfold StackAt at h2
    rw [hl, hs, valRow_app] at h2
    exact h2
  have s0 : w.cell? ⟨sg, r.length * 2, none⟩ = some (.int .i64 kb) := by
    have h3 := hv2.cells rfl (r.length * 2) (.int .i64 kb) (by rw [List.getElem?_append_right (by rw [valRow_length]; omega), valRow_length]; simp [valCells])
    rw [Addr.add_lit, Nat.zero_add] at h3
    exact h3
  have s1 : w.cell? ⟨sg, r.length * 2 + 1, none⟩ = some (.int .i64 xb) := by
    have h3 := hv2.cells rfl (r.length * 2 + 1) (.int .i64 xb) (by rw [List.getElem?_append_right (by rw [valRow_length]; omega), valRow_length]; simp [valCells])
    rw [Addr.add_lit, Nat.zero_add] at h3
    exact h3
  have hpop : w.ownsRow K 106 2 (.slice (some ⟨sg, 0, none⟩) r.length c) r.length (valRow r) := by
    have h3 := own_pop2 hv2 (k := r.length) (by omega) (by omega)
    rwa [List.take_left' (by rw [valRow_length])] at h3
  have HV := Lib.hid hpop
  have HS := Lib.hid hs
  rw [hl] at hlc hh hv ⊢
  have hlc1 : ((r.length + 1 : Nat) : Int) ≤ c := by omega
  have hlc2 : (c : Int) ≤ 9223372036854775807 := by omega
  have hlc4 : (r.length : Int) ≤ 1000000 := by omega
  have hlc5 : (r.length : Int) + 1 ≤ c := by omega
  have hlc6 : (r.length : Int) ≤ c := by omega
  have hgw := h.gw
  have hcw := h.cw
  have hkK : M.K ≤ M.g := h.kg
  have hgw1 : M.g < w.heap.size + 1 := by omega
  have hgw2 : M.g < w.heap.size + 1 + 1 := by omega
  have hgw3 : M.g < w.heap.size + 1 + 1 + 1 := by omega
  have hgn0 : ¬ M.g = w.heap.size := by omega
  have hgn1 : ¬ M.g = w.heap.size + 1 := by omega
  have hgn2 : ¬ M.g = w.heap.size + 1 + 1 := by omega
  have hcw1 : M.cg < w.heap.size + 1 := by omega
  have hcw2 : M.cg < w.heap.size + 1 + 1 := by omega
  have hcw3 : M.cg < w.heap.size + 1 + 1 + 1 := by omega
  have hsw1 : sg < w.heap.size + 1 := by omega
  have hsw2 : sg < w.heap.size + 1 + 1 := by omega
  have hsw3 : sg < w.heap.size + 1 + 1 + 1 := by omega
  have HNE := Lib.hid (show ∀ b, (b < K ∨ w.heap.size ≤ b) → (Value.slice (some ⟨sg, 0, none⟩) r.length c).ownBlock ≠ some b from fun b hb e => by have := hpop.lt b e; omega)
  obtain ⟨n, hn⟩ : ∃ n, r.length = n := ⟨_, rfl⟩
  have HN := Lib.hid hn
  rw [hn] at hlc hlc1 hlc4 hlc5 hlc6 hh HNE s0 s1 hpop HV ⊢
  clear h hv hv2 hs hl hn hvc hpop
  go_enter Tryd.func56, Tryd.ntmps56
  go_wp2_with fail
  refine (TK.out _).mono ?_
  rintro e _ ⟨rfl, rfl⟩
  go_wp2_with (at_builtin; refine wpList_append_own _ rfl _ _ 102 rfl K 106 i0 _ 2 16 t22 hi hz0 hz1 hz2 rfl (by decide) (.slice (some ⟨sg, 0, none⟩) n c) n (valRow r) rfl (row_keep HV.out (by repeat (first | (with_reducible exact Below.refl _ _) | (with_reducible refine Below.setCell ?_ (by first | omega | (simp; done) | (simp; omega)) _) | (with_reducible refine Below.drew ?_) | (with_reducible refine below_dN _ ?_) | (with_reducible refine Below.alloc ?_ (by first | omega | (simp; done) | (simp; omega)) _)))) ⟨_, 0, none⟩ 2 2 (valCells (kb, xb) ++ valCells (kb, xb)) rfl rfl (vals_news2 (by go_simp) (by go_simp) (by go_simp) (by go_simp)) (fun u hu => (List.mem_append.1 hu).elim (valCells_one _ u) (valCells_one _ u)) (by unfold maxLen; omega) (by omega) (by first | omega | (simp; done) | (simp; omega)) ?_; intro v1 w1 hown hgrow hnil; have hsa := step_app (S' := pushS ({ S with stk := r } : St) kb [xb, xb]) HM.out (fun k hk => (HV.out.lt k hk).1) hKw hg hc (by repeat (first | (with_reducible exact Below.refl _ _) | (with_reducible refine Below.setCell ?_ (by first | omega | (simp; done) | (simp; omega)) _) | (with_reducible refine Below.drew ?_) | (with_reducible refine below_dN _ ?_) | (with_reducible refine Below.alloc ?_ (by first | omega | (simp; done) | (simp; omega)) _))) hgrow ⟨rfl, rfl, rfl, rfl⟩; obtain ⟨A1, C1, rfl, _, _⟩ := own_slice hown; have HSA := Lib.hid hsa; have HO1 := Lib.hid hown; clear hown hgrow hnil hsa)
  go_wp2_with fail
  go_ret2
  refine ⟨_, rfl, fun _ => ?_, HSA.out.1, HSA.out.2⟩
  have h1 := HO1.out
  unfold StackAt
  rw [show (pushS ({ S with stk := r } : St) kb [xb, xb]).stk = r ++ [(kb, xb), (kb, xb)] from rfl, valRow_app, List.length_append, HN.out]
  exact h1
end Go.Proofs.YtngobbbinacomaaDoor
