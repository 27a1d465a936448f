/- Chapter 14: the document's step: signs of two values. -/
import Derived.Test.YtngobbbinacomaaDoorQ40
namespace Go.Proofs.YtngobbbinacomaaDoor
open Go.RowKit Go.Proofs.YtngobbbinacomaaDoor.c11 Go.Proofs.YtngobbbinacomaaDoor.c10 Go.Proofs.YtngobbbinacomaaDoor.c13
set_option linter.unusedVariables false
set_option linter.unusedSimpArgs false
attribute [local go_sem ↓] Go.wp_at_zero Go.wp_at_succ
set_option maxHeartbeats 4000000 in
set_option maxRecDepth 100000 in
theorem rstep_two_bad (M : RWho) (w : World) (S : St) (h : RMach M w S) (K : Nat) (hKw : K ≤ w.heap.size) (hg : M.g < K) (hc : M.cg < K) (v : Value) (hv : StackAt w K v S.stk) (hh : S.stk.length ≤ 1000000) (a0 a1 N s : Int) (hts : takesN s = 2) (a : Nat) (r : List (Int × Int)) (ka xa kb xb : Int) (hs : S.stk = r ++ [(ka, xa), (kb, xb)]) (n1 : s ≠ 1) (n2 : s ≠ 2) (n3 : s ≠ 3) (n4 : s ≠ 4) (n5 : s ≠ 5) (n6 : s ≠ 6) (n15 : s ≠ 15) (n21 : s ≠ 21) (n22 : s ≠ 22) (n23 : s ≠ 23) (n24 : s ≠ 24) (n25 : s ≠ 25) (n26 : s ≠ 26) (n27 : s ≠ 27) (he : twoE s ka kb xb ≠ 0) :
    Calls Tryd.prog 56 #[.pointer (some ⟨M.g, 0, none⟩), .agg #[.int .i64 a0, .int .i64 a1, .int .i64 s, .int .i64 (a : Int), .int .i64 N], v] w (StepPost M K w (({ S with stk := r } : St), twoE s ka kb xb)) := by
  have hl : S.stk.length = r.length + 2 := by rw [hs]; simp
  obtain ⟨sg, c, hvv, hsg, hsw⟩ := World.ownsRow.form hv (by omega)
  subst hvv
  obtain ⟨_, c', hvc, hlc, hcm⟩ := own_slice hv
  obtain rfl : c = c' := by injection hvc
  unfold maxLen at hcm
  obtain ⟨i0, hi, hz0, hz1, hz2⟩ := info_parts valInfo
  have t22 := valTy
  have TK := Lib.hid (fun u => rtakes_any s u)
  rw [hts] at TK
  have HM := Lib.hid h
  have hv2 : w.ownsRow K 106 2 (.slice (some ⟨sg, 0, none⟩) (r.length + 2) c) (r.length + 2) (valRow r ++ (valCells (ka, xa) ++ valCells (kb, xb))) := by
    have h2 := hv
    unfold StackAt at h2
    rw [hl, hs, valRow_app] at h2
    exact h2
  have s0 : w.cell? ⟨sg, r.length * 2, none⟩ = some (.int .i64 ka) := by
    have h3 := hv2.cells rfl (r.length * 2) (.int .i64 ka) (by rw [List.getElem?_append_right (by rw [valRow_length]; omega), valRow_length]; simp [valCells])
    rw [Addr.add_lit, Nat.zero_add] at h3
    exact h3
  have s1 : w.cell? ⟨sg, r.length * 2 + 1, none⟩ = some (.int .i64 xa) := by
    have h3 := hv2.cells rfl (r.length * 2 + 1) (.int .i64 xa) (by rw [List.getElem?_append_right (by rw [valRow_length]; omega), valRow_length]; simp [valCells])
    rw [Addr.add_lit, Nat.zero_add] at h3
    exact h3
  have s2 : w.cell? ⟨sg, r.length * 2 + 2, none⟩ = some (.int .i64 kb) := by
    have h3 := hv2.cells rfl (r.length * 2 + 2) (.int .i64 kb) (by rw [List.getElem?_append_right (by rw [valRow_length]; omega), valRow_length]; simp [valCells])
    rw [Addr.add_lit, Nat.zero_add] at h3
    exact h3
  have s3 : w.cell? ⟨sg, r.length * 2 + 3, none⟩ = some (.int .i64 xb) := by
    have h3 := hv2.cells rfl (r.length * 2 + 3) (.int .i64 xb) (by rw [List.getElem?_append_right (by rw [valRow_length]; omega), valRow_length]; simp [valCells])
    rw [Addr.add_lit, Nat.zero_add] at h3
    exact h3
  have s4 : w.cell? ⟨sg, (r.length + 1) * 2, none⟩ = some (.int .i64 kb) := by rw [show (r.length + 1) * 2 = r.length * 2 + 2 by omega]; exact s2
  have s5 : w.cell? ⟨sg, (r.length + 1) * 2 + 1, none⟩ = some (.int .i64 xb) := by rw [show (r.length + 1) * 2 + 1 = r.length * 2 + 3 by omega]; exact s3
  have hpop : w.ownsRow K 106 2 (.slice (some ⟨sg, 0, none⟩) r.length c) r.length (valRow r) := by
    have h3 := own_pop2 hv2 (k := r.length) (by omega) (by omega)
    rwa [List.take_left' (by rw [valRow_length])] at h3
  have HV := Lib.hid hpop
  have HS := Lib.hid hs
  rw [hl] at hlc hh hv ⊢
  have hlc1 : ((r.length + 2 : Nat) : Int) ≤ c := by omega
  have hlc2 : (c : Int) ≤ 9223372036854775807 := by omega
  have hlc4 : (r.length : Int) ≤ 1000000 := by omega
  have hlc5 : (r.length : Int) + 2 ≤ c := by omega
  have hlc7 : (r.length : Int) + 1 ≤ c := by omega
  have hlc6 : (r.length : Int) ≤ c := by omega
  have hgw := h.gw
  have hcw := h.cw
  have hkK : M.K ≤ M.g := h.kg
  have hgw1 : M.g < w.heap.size + 1 := by omega
  have hgw2 : M.g < w.heap.size + 1 + 1 := by omega
  have hgw3 : M.g < w.heap.size + 1 + 1 + 1 := by omega
  have hgn0 : ¬ M.g = w.heap.size := by omega
  have hgn1 : ¬ M.g = w.heap.size + 1 := by omega
  have hgn2 : ¬ M.g = w.heap.size + 1 + 1 := by omega
  have hcw1 : M.cg < w.heap.size + 1 := by omega
  have hcw2 : M.cg < w.heap.size + 1 + 1 := by omega
  have hcw3 : M.cg < w.heap.size + 1 + 1 + 1 := by omega
  have hsw1 : sg < w.heap.size + 1 := by omega
  have hsw2 : sg < w.heap.size + 1 + 1 := by omega
  have hsw3 : sg < w.heap.size + 1 + 1 + 1 := by omega
  have e1 : (s == 1) = false := by simpa using n1
  have e2 : (s == 2) = false := by simpa using n2
  have e3 : (s == 3) = false := by simpa using n3
  have e4 : (s == 4) = false := by simpa using n4
  have e5 : (s == 5) = false := by simpa using n5
  have e6 : (s == 6) = false := by simpa using n6
  have e15 : (s == 15) = false := by simpa using n15
  have e21 : (s == 21) = false := by simpa using n21
  have e22 : (s == 22) = false := by simpa using n22
  have e23 : (s == 23) = false := by simpa using n23
  have e24 : (s == 24) = false := by simpa using n24
  have e25 : (s == 25) = false := by simpa using n25
  have e26 : (s == 26) = false := by simpa using n26
  have e27 : (s == 27) = false := by simpa using n27
  clear n1 n2 n3 n4 n5 n6 n15 n21 n22 n23 n24 n25 n26 n27
  have TT := Lib.hid (fun u => rtwo_any s ka kb xa xb u)
  have hb1 : (twoE s ka kb xb == 0) = false := by simpa using he
  have hb2 : (twoE s ka kb xb != 0) = true := by simpa using he
  have HE := Lib.hid he
  generalize twoE s ka kb xb = te at *
  generalize twoM s ka kb xa xb = tm at *
  clear he
  have HNE := Lib.hid (show ∀ b, (b < K ∨ w.heap.size ≤ b) → (Value.slice (some ⟨sg, 0, none⟩) r.length c).ownBlock ≠ some b from fun b hb e => by have := hpop.lt b e; omega)
  obtain ⟨n, hn⟩ : ∃ n, r.length = n := ⟨_, rfl⟩
  have HN := Lib.hid hn
  rw [hn] at hlc hlc1 hlc4 hlc5 hlc6 hlc7 hh HNE s0 s1 s2 s3 s4 s5 hpop HV ⊢
  clear h hv hv2 hs hl hn hvc hpop
  go_enter Tryd.func56, Tryd.ntmps56
  go_wp2_with fail
  refine (TK.out _).mono ?_
  rintro e _ ⟨rfl, rfl⟩
  go_wp2_with fail
  refine (TT.out _).mono ?_
  rintro e _ ⟨rfl, rfl⟩
  go_wp2_with fail
  go_ret2
  exact ⟨_, rfl, fun h => absurd h HE.out, step_none (S' := { S with stk := r }) HM.out hKw (by repeat (first | (with_reducible exact Below.refl _ _) | (with_reducible refine Below.setCell ?_ (by first | omega | (simp; done) | (simp; omega)) _) | (with_reducible refine Below.drew ?_) | (with_reducible refine below_dN _ ?_) | (with_reducible refine Below.alloc ?_ (by first | omega | (simp; done) | (simp; omega)) _))) ⟨rfl, rfl, rfl, rfl⟩⟩
set_option maxHeartbeats 4000000 in
set_option maxRecDepth 100000 in
theorem rstep_two (M : RWho) (w : World) (S : St) (h : RMach M w S) (K : Nat) (hKw : K ≤ w.heap.size) (hg : M.g < K) (hc : M.cg < K) (v : Value) (hv : StackAt w K v S.stk) (hh : S.stk.length ≤ 1000000) (a0 a1 N s : Int) (hts : takesN s = 2) (a : Nat) (r : List (Int × Int)) (ka xa kb xb : Int) (hs : S.stk = r ++ [(ka, xa), (kb, xb)]) (n1 : s ≠ 1) (n2 : s ≠ 2) (n3 : s ≠ 3) (n4 : s ≠ 4) (n5 : s ≠ 5) (n6 : s ≠ 6) (n15 : s ≠ 15) (n21 : s ≠ 21) (n22 : s ≠ 22) (n23 : s ≠ 23) (n24 : s ≠ 24) (n25 : s ≠ 25) (n26 : s ≠ 26) (n27 : s ≠ 27) (he : twoE s ka kb xb = 0) :
    Calls Tryd.prog 56 #[.pointer (some ⟨M.g, 0, none⟩), .agg #[.int .i64 a0, .int .i64 a1, .int .i64 s, .int .i64 (a : Int), .int .i64 N], v] w (StepPost M K w (pushS ({ S with stk := r } : St) (kindM s ka kb) [twoM s ka kb xa xb], 0)) := by
  have hl : S.stk.length = r.length + 2 := by rw [hs]; simp
  obtain ⟨sg, c, hvv, hsg, hsw⟩ := World.ownsRow.form hv (by omega)
  subst hvv
  obtain ⟨_, c', hvc, hlc, hcm⟩ := own_slice hv
  obtain rfl : c = c' := by injection hvc
  unfold maxLen at hcm
  obtain ⟨i0, hi, hz0, hz1, hz2⟩ := info_parts valInfo
  have t22 := valTy
  have TK := Lib.hid (fun u => rtakes_any s u)
  rw [hts] at TK
  have HM := Lib.hid h
  have hv2 : w.ownsRow K 106 2 (.slice (some ⟨sg, 0, none⟩) (r.length + 2) c) (r.length + 2) (valRow r ++ (valCells (ka, xa) ++ valCells (kb, xb))) := by
    have h2 := hv
    unfold StackAt at h2
    rw [hl, hs, valRow_app] at h2
    exact h2
  have s0 : w.cell? ⟨sg, r.length * 2, none⟩ = some (.int .i64 ka) := by
    have h3 := hv2.cells rfl (r.length * 2) (.int .i64 ka) (by rw [List.getElem?_append_right (by rw [valRow_length]; omega), valRow_length]; simp [valCells])
    rw [Addr.add_lit, Nat.zero_add] at h3
    exact h3
  have s1 : w.cell? ⟨sg, r.length * 2 + 1, none⟩ = some (.int .i64 xa) := by
    have h3 := hv2.cells rfl (r.length * 2 + 1) (.int .i64 xa) (by rw [List.getElem?_append_right (by rw [valRow_length]; omega), valRow_length]; simp [valCells])
    rw [Addr.add_lit, Nat.zero_add] at h3
    exact h3
  have s2 : w.cell? ⟨sg, r.length * 2 + 2, none⟩ = some (.int .i64 kb) := by
    have h3 := hv2.cells rfl (r.length * 2 + 2) (.int .i64 kb) (by rw [List.getElem?_append_right (by rw [valRow_length]; omega), valRow_length]; simp [valCells])
    rw [Addr.add_lit, Nat.zero_add] at h3
    exact h3
  have s3 : w.cell? ⟨sg, r.length * 2 + 3, none⟩ = some (.int .i64 xb) := by
    have h3 := hv2.cells rfl (r.length * 2 + 3) (.int .i64 xb) (by rw [List.getElem?_append_right (by rw [valRow_length]; omega), valRow_length]; simp [valCells])
    rw [Addr.add_lit, Nat.zero_add] at h3
    exact h3
  have s4 : w.cell? ⟨sg, (r.length + 1) * 2, none⟩ = some (.int .i64 kb) := by rw [show (r.length + 1) * 2 = r.length * 2 + 2 by omega]; exact s2
  have s5 : w.cell? ⟨sg, (r.length + 1) * 2 + 1, none⟩ = some (.int .i64 xb) := by rw [show (r.length + 1) * 2 + 1 = r.length * 2 + 3 by omega]; exact s3
  have hpop : w.ownsRow K 106 2 (.slice (some ⟨sg, 0, none⟩) r.length c) r.length (valRow r) := by
    have h3 := own_pop2 hv2 (k := r.length) (by omega) (by omega)
    rwa [List.take_left' (by rw [valRow_length])] at h3
  have HV := Lib.hid hpop
  have HS := Lib.hid hs
  rw [hl] at hlc hh hv ⊢
  have hlc1 : ((r.length + 2 : Nat) : Int) ≤ c := by omega
  have hlc2 : (c : Int) ≤ 9223372036854775807 := by omega
  have hlc4 : (r.length : Int) ≤ 1000000 := by omega
  have hlc5 : (r.length : Int) + 2 ≤ c := by omega
  have hlc7 : (r.length : Int) + 1 ≤ c := by omega
  have hlc6 : (r.length : Int) ≤ c := by omega
  have hgw := h.gw
  have hcw := h.cw
  have hkK : M.K ≤ M.g := h.kg
  have hgw1 : M.g < w.heap.size + 1 := by omega
  have hgw2 : M.g < w.heap.size + 1 + 1 := by omega
  have hgw3 : M.g < w.heap.size + 1 + 1 + 1 := by omega
  have hgn0 : ¬ M.g = w.heap.size := by omega
  have hgn1 : ¬ M.g = w.heap.size + 1 := by omega
  have hgn2 : ¬ M.g = w.heap.size + 1 + 1 := by omega
  have hcw1 : M.cg < w.heap.size + 1 := by omega
  have hcw2 : M.cg < w.heap.size + 1 + 1 := by omega
  have hcw3 : M.cg < w.heap.size + 1 + 1 + 1 := by omega
  have hsw1 : sg < w.heap.size + 1 := by omega
  have hsw2 : sg < w.heap.size + 1 + 1 := by omega
  have hsw3 : sg < w.heap.size + 1 + 1 + 1 := by omega
  have e1 : (s == 1) = false := by simpa using n1
  have e2 : (s == 2) = false := by simpa using n2
  have e3 : (s == 3) = false := by simpa using n3
  have e4 : (s == 4) = false := by simpa using n4
  have e5 : (s == 5) = false := by simpa using n5
  have e6 : (s == 6) = false := by simpa using n6
  have e15 : (s == 15) = false := by simpa using n15
  have e21 : (s == 21) = false := by simpa using n21
  have e22 : (s == 22) = false := by simpa using n22
  have e23 : (s == 23) = false := by simpa using n23
  have e24 : (s == 24) = false := by simpa using n24
  have e25 : (s == 25) = false := by simpa using n25
  have e26 : (s == 26) = false := by simpa using n26
  have e27 : (s == 27) = false := by simpa using n27
  clear n1 n2 n3 n4 n5 n6 n15 n21 n22 n23 n24 n25 n26 n27
  have TT := Lib.hid (fun u => rtwo_any s ka kb xa xb u)
  have KK := Lib.hid (fun u => rkind_any s ka kb u)
  rw [he] at TT
  generalize hkm : kindM s ka kb = km at *
  generalize htm : twoM s ka kb xa xb = tm at *
  clear he hkm htm
  have HNE := Lib.hid (show ∀ b, (b < K ∨ w.heap.size ≤ b) → (Value.slice (some ⟨sg, 0, none⟩) r.length c).ownBlock ≠ some b from fun b hb e => by have := hpop.lt b e; omega)
  obtain ⟨n, hn⟩ : ∃ n, r.length = n := ⟨_, rfl⟩
  have HN := Lib.hid hn
  rw [hn] at hlc hlc1 hlc4 hlc5 hlc6 hlc7 hh HNE s0 s1 s2 s3 s4 s5 hpop HV ⊢
  clear h hv hv2 hs hl hn hvc hpop
  go_enter Tryd.func56, Tryd.ntmps56
  go_wp2_with fail
  refine (TK.out _).mono ?_
  rintro e _ ⟨rfl, rfl⟩
  go_wp2_with fail
  refine (TT.out _).mono ?_
  rintro e _ ⟨rfl, rfl⟩
  go_wp2_with fail
  refine (KK.out _).mono ?_
  rintro e _ ⟨rfl, rfl⟩
  go_wp2_with (at_builtin; refine wpList_append_own _ rfl _ _ 102 rfl K 106 i0 _ 2 16 t22 hi hz0 hz1 hz2 rfl (by decide) (.slice (some ⟨sg, 0, none⟩) n c) n (valRow r) rfl (row_keep HV.out (by repeat (first | (with_reducible exact Below.refl _ _) | (with_reducible refine Below.setCell ?_ (by first | omega | (simp; done) | (simp; omega)) _) | (with_reducible refine Below.drew ?_) | (with_reducible refine below_dN _ ?_) | (with_reducible refine Below.alloc ?_ (by first | omega | (simp; done) | (simp; omega)) _)))) ⟨_, 0, none⟩ 1 1 (valCells (km, tm)) rfl rfl (vals_news (by go_simp) (by go_simp)) (valCells_one _) (by unfold maxLen; omega) (by omega) (by first | omega | (simp; done) | (simp; omega)) ?_; intro v1 w1 hown hgrow hnil; have hsa := step_app (S' := pushS ({ S with stk := r } : St) (km) [tm]) HM.out (fun k hk => (HV.out.lt k hk).1) hKw hg hc (by repeat (first | (with_reducible exact Below.refl _ _) | (with_reducible refine Below.setCell ?_ (by first | omega | (simp; done) | (simp; omega)) _) | (with_reducible refine Below.drew ?_) | (with_reducible refine below_dN _ ?_) | (with_reducible refine Below.alloc ?_ (by first | omega | (simp; done) | (simp; omega)) _))) hgrow ⟨rfl, rfl, rfl, rfl⟩; obtain ⟨A1, C1, rfl, _, _⟩ := own_slice hown; have HSA := Lib.hid hsa; have HO1 := Lib.hid hown; clear hown hgrow hnil hsa)
  go_wp2_with fail
  go_ret2
  refine ⟨_, rfl, fun _ => ?_, HSA.out.1, HSA.out.2⟩; have h1 := HO1.out; unfold StackAt; rw [show (pushS ({ S with stk := r } : St) (km) [tm]).stk = r ++ [(km, tm)] from rfl, valRow_app, List.length_append, HN.out]; exact h1
end Go.Proofs.YtngobbbinacomaaDoor
