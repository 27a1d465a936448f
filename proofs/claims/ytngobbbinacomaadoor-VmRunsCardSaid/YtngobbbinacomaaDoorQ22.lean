/- Chapter 12's pick: further cases. -/
import Derived.Test.YtngobbbinacomaaDoorQ20
import Derived.Deep.QuietTactic
import Derived.BigQuiet
namespace Go.Proofs.YtngobbbinacomaaDoor
open Go.RowKit Go.Proofs.YtngobbbinacomaaDoor.c11 Go.Proofs.YtngobbbinacomaaDoor.c10
set_option linter.unusedVariables false
set_option linter.unusedSimpArgs false
attribute [local go_sem ↓] Go.wp_at_zero Go.wp_at_succ
set_option maxHeartbeats 8000000 in
set_option maxRecDepth 100000 in
theorem pick_7 (A : Option Addr) (c : Nat) (cells : List CellD) (n : Int) (S : Option Addr) (cs : Nat) (st : List Int) (funcs : Nat) (at_ : Nat) (P : Option Addr) (cp : Nat) (sp : List (Nat × List Int)) (w : World) (hn : I64 n) (hr : Row w w.heap.size 6 A cells.length (cellRow cells)) (hc : cells.length ≤ c) (hcl : 0 < cells.length ∧ cells.length ≤ 200)
    (hs : Row w w.heap.size 1 S st.length (st.map (Value.int .i64))) (hsc : st.length ≤ cs) (hs8 : st.length ≤ 8) (hsk : ∀ x ∈ st, 1 ≤ x ∧ x ≤ 6) (hf : funcs ≤ 2) (hat : at_ < 100) (hp : SpotsAt w w.heap.size P sp) (hpc : sp.length ≤ cp) (hpl : sp.length ≤ 100) (hpa : ∀ x ∈ sp, x.1 < 200 ∧ x.2.length ≤ 8) (h16 : n % 16 = 7) :
    Calls Tryd.prog 48 #[.slice A cells.length c, .int .i64 n, .slice S st.length cs, .int .i64 funcs, .int .i64 at_, .slice P sp.length cp] w (PickBack w cells st funcs at_ sp) := by
  have W16 := Lib.hid (fun W => show Calls Tryd.prog 35 #[.int .i64 n, .int .i64 16] W (fun e w' => e = .returned (.int .i64 7) ∧ W = w') from by have h := within12_any n 16 (by decide) (by decide) W; rw [h16] at h; exact h)
  have W4 := Lib.hid (fun (a : Int) (W : World) => show Calls Tryd.prog 35 #[.int .i64 a, .int .i64 4] W (fun e w' => ∃ q : Nat, q < 4 ∧ e = .returned (.int .i64 q) ∧ W = w') from within12_nat a 4 (by decide) (by decide) W)
  have W6 := Lib.hid (fun (a : Int) (W : World) => show Calls Tryd.prog 35 #[.int .i64 a, .int .i64 6] W (fun e w' => ∃ q : Nat, q < 6 ∧ e = .returned (.int .i64 q) ∧ W = w') from within12_nat a 6 (by decide) (by decide) W)
  have WL := Lib.hid (fun a W => within12_nat a cells.length hcl.1 (by omega) W)
  obtain ⟨K, hK⟩ : ∃ K, IntKind.i64.wrap (n.tdiv 32) = K := ⟨_, rfl⟩
  obtain ⟨hcl0, hcl1⟩ := hcl
  have hcI : (cells.length : Int) ≤ c := by omega
  have hcl2 : (cells.length : Int) ≤ 200 := by omega
  clear h16 hr hp hpa
  have HQ6 := Lib.hid (show ∀ q : Nat, q < 6 → (q : Int) < 6 from fun q h => by omega)
  have HF0 := Lib.hid (show Five (w.alloc (.cells #[.int .i64 0, .int .i64 0, .int .i64 0, .int .i64 0, .int .i64 0] 67)) w.heap.size 0 0 0 0 0 from by constructor <;> go_simp)
  have HB0 := Lib.hid (show Below w.heap.size w (w.alloc (.cells #[.int .i64 0, .int .i64 0, .int .i64 0, .int .i64 0, .int .i64 0] 67)) from (Below.refl _ w).alloc (Nat.le_refl _) _)
  have hlt0 : w.heap.size < (w.alloc (.cells #[.int .i64 0, .int .i64 0, .int .i64 0, .int .i64 0, .int .i64 0] 67)).heap.size := by simp
  by_cases h2 : ∃ r x y, st = r ++ [x, y]
  · obtain ⟨r, x, y, rfl⟩ := h2
    obtain ⟨m, hm⟩ : ∃ m, r.length = m := ⟨_, rfl⟩
    have hl : (r ++ [x, y]).length = m + 2 := by simp [hm]
    rw [hl] at hs hsc hs8
    obtain ⟨sb, so, hS, hsb, ea⟩ := row_top (j := 0) hs hm (by decide) rfl
    rw [Nat.add_zero] at ea
    obtain ⟨sb', so', hS', _, eb⟩ := row_top (j := 1) hs hm (by decide) rfl
    rw [Nat.add_assoc] at eb
    obtain ⟨rfl, rfl⟩ : sb = sb' ∧ so = so' := by rw [hS] at hS'; injection hS' with e; injection e with e1 e2; exact ⟨e1, e2⟩
    subst hS
    have hk7 : (m : Int) + 2 - 1 = m + 1 := by omega
    have hk8 : (m : Int) + 2 - 2 = m := by omega
    have hk9 : ((m : Int) + 1).toNat = m + 1 := by omega
    have hk1 : (m : Int) + 2 ≤ cs := by omega
    have hk4 : (m : Int) ≤ 8 := by omega
    have HY := Lib.hid (hsk y (by simp))
    have hd1 : decide ((1 : Int) < (m : Int) + 2) = true := decide_eq_true (by omega)
    have hd2 : (1 : Int) < (m : Int) + 2 := by omega
    rw [hl]
    clear hs hsk hS' hm hl
    by_cases hxy : x = y
    · subst hxy
      go_enter Tryd.func48, Tryd.ntmps48
      go_wp2_with (first | (go_at_call 35; first | ((with_reducible refine (W16.out _).mono ?_); rintro e _ ⟨rfl, rfl⟩)))
      go_quiet (fail)
      have hy := HY.out
      rcases (show x = 1 ∨ x = 2 ∨ x = 3 ∨ x = 4 ∨ x = 5 ∨ x = 6 by omega) with rfl | rfl | rfl | rfl | rfl | rfl
      · obtain ⟨q, hq, wq⟩ := within12_int K 3 (by decide) (by decide)
        have WQI := Lib.hid wq
        clear wq hy
        go_wp2_with fail
        refine (WQI.out _ (by first | rfl | simp) _).mono ?_
        rintro e _ ⟨rfl, rfl⟩
        rcases (show q = 0 ∨ q = 1 ∨ q = 2 by omega) with rfl | rfl | rfl
        · go_wp2_with fail
          refine bodyPost_ret (v := .agg #[.int .i64 0, .int .i64 0, .int .i64 12, .int .i64 (0), .int .i64 (0)]) ((fun (W : World) (h : Cells5 W w.heap.size 0 0 (12) (0) (0)) => (by obtain ⟨c0, c1, c2, c3, c4⟩ := h; simp [results, Tryd.results48, go_sem, c0, c1, c2, c3, c4] : (results _ _).run _ W = .ok _ W)) _ (by constructor <;> (go_simp; try exact IntWalk.i64_in _ (by omega)))) rfl (pickBack (po_two 12 (by decide)) (by repeat (first | (with_reducible exact Below.refl _ _) | (with_reducible exact HB0.out) | (with_reducible refine Below.setCell ?_ (by first | omega | (simp; done) | (simp; omega)) _) | (with_reducible refine Below.drew ?_) | (with_reducible refine below_dN _ ?_) | (with_reducible refine Below.alloc ?_ (by first | omega | (simp; done) | (simp; omega)) _))))
        · go_wp2_with fail
          refine bodyPost_ret (v := .agg #[.int .i64 0, .int .i64 0, .int .i64 13, .int .i64 (0), .int .i64 (0)]) ((fun (W : World) (h : Cells5 W w.heap.size 0 0 (13) (0) (0)) => (by obtain ⟨c0, c1, c2, c3, c4⟩ := h; simp [results, Tryd.results48, go_sem, c0, c1, c2, c3, c4] : (results _ _).run _ W = .ok _ W)) _ (by constructor <;> (go_simp; try exact IntWalk.i64_in _ (by omega)))) rfl (pickBack (po_two 13 (by decide)) (by repeat (first | (with_reducible exact Below.refl _ _) | (with_reducible exact HB0.out) | (with_reducible refine Below.setCell ?_ (by first | omega | (simp; done) | (simp; omega)) _) | (with_reducible refine Below.drew ?_) | (with_reducible refine below_dN _ ?_) | (with_reducible refine Below.alloc ?_ (by first | omega | (simp; done) | (simp; omega)) _))))
        · go_wp2_with fail
          refine bodyPost_ret (v := .agg #[.int .i64 0, .int .i64 0, .int .i64 14, .int .i64 (0), .int .i64 (0)]) ((fun (W : World) (h : Cells5 W w.heap.size 0 0 (14) (0) (0)) => (by obtain ⟨c0, c1, c2, c3, c4⟩ := h; simp [results, Tryd.results48, go_sem, c0, c1, c2, c3, c4] : (results _ _).run _ W = .ok _ W)) _ (by constructor <;> (go_simp; try exact IntWalk.i64_in _ (by omega)))) rfl (pickBack (po_two 14 (by decide)) (by repeat (first | (with_reducible exact Below.refl _ _) | (with_reducible exact HB0.out) | (with_reducible refine Below.setCell ?_ (by first | omega | (simp; done) | (simp; omega)) _) | (with_reducible refine Below.drew ?_) | (with_reducible refine below_dN _ ?_) | (with_reducible refine Below.alloc ?_ (by first | omega | (simp; done) | (simp; omega)) _))))
      · obtain ⟨q, hq, wq⟩ := within12_int K 4 (by decide) (by decide)
        have WQI := Lib.hid wq
        clear wq hy
        go_wp2_with fail
        refine (WQI.out _ (by first | rfl | simp) _).mono ?_
        rintro e _ ⟨rfl, rfl⟩
        rcases (show q = 0 ∨ q = 1 ∨ q = 2 ∨ q = 3 by omega) with rfl | rfl | rfl | rfl
        · go_wp2_with fail
          refine bodyPost_ret (v := .agg #[.int .i64 0, .int .i64 0, .int .i64 12, .int .i64 (0), .int .i64 (0)]) ((fun (W : World) (h : Cells5 W w.heap.size 0 0 (12) (0) (0)) => (by obtain ⟨c0, c1, c2, c3, c4⟩ := h; simp [results, Tryd.results48, go_sem, c0, c1, c2, c3, c4] : (results _ _).run _ W = .ok _ W)) _ (by constructor <;> (go_simp; try exact IntWalk.i64_in _ (by omega)))) rfl (pickBack (po_two 12 (by decide)) (by repeat (first | (with_reducible exact Below.refl _ _) | (with_reducible exact HB0.out) | (with_reducible refine Below.setCell ?_ (by first | omega | (simp; done) | (simp; omega)) _) | (with_reducible refine Below.drew ?_) | (with_reducible refine below_dN _ ?_) | (with_reducible refine Below.alloc ?_ (by first | omega | (simp; done) | (simp; omega)) _))))
        · go_wp2_with fail
          refine bodyPost_ret (v := .agg #[.int .i64 0, .int .i64 0, .int .i64 13, .int .i64 (0), .int .i64 (0)]) ((fun (W : World) (h : Cells5 W w.heap.size 0 0 (13) (0) (0)) => (by obtain ⟨c0, c1, c2, c3, c4⟩ := h; simp [results, Tryd.results48, go_sem, c0, c1, c2, c3, c4] : (results _ _).run _ W = .ok _ W)) _ (by constructor <;> (go_simp; try exact IntWalk.i64_in _ (by omega)))) rfl (pickBack (po_two 13 (by decide)) (by repeat (first | (with_reducible exact Below.refl _ _) | (with_reducible exact HB0.out) | (with_reducible refine Below.setCell ?_ (by first | omega | (simp; done) | (simp; omega)) _) | (with_reducible refine Below.drew ?_) | (with_reducible refine below_dN _ ?_) | (with_reducible refine Below.alloc ?_ (by first | omega | (simp; done) | (simp; omega)) _))))
        · go_wp2_with fail
          refine bodyPost_ret (v := .agg #[.int .i64 0, .int .i64 0, .int .i64 14, .int .i64 (0), .int .i64 (0)]) ((fun (W : World) (h : Cells5 W w.heap.size 0 0 (14) (0) (0)) => (by obtain ⟨c0, c1, c2, c3, c4⟩ := h; simp [results, Tryd.results48, go_sem, c0, c1, c2, c3, c4] : (results _ _).run _ W = .ok _ W)) _ (by constructor <;> (go_simp; try exact IntWalk.i64_in _ (by omega)))) rfl (pickBack (po_two 14 (by decide)) (by repeat (first | (with_reducible exact Below.refl _ _) | (with_reducible exact HB0.out) | (with_reducible refine Below.setCell ?_ (by first | omega | (simp; done) | (simp; omega)) _) | (with_reducible refine Below.drew ?_) | (with_reducible refine below_dN _ ?_) | (with_reducible refine Below.alloc ?_ (by first | omega | (simp; done) | (simp; omega)) _))))
        · go_wp2_with fail
          refine bodyPost_ret (v := .agg #[.int .i64 0, .int .i64 0, .int .i64 17, .int .i64 (0), .int .i64 (0)]) ((fun (W : World) (h : Cells5 W w.heap.size 0 0 (17) (0) (0)) => (by obtain ⟨c0, c1, c2, c3, c4⟩ := h; simp [results, Tryd.results48, go_sem, c0, c1, c2, c3, c4] : (results _ _).run _ W = .ok _ W)) _ (by constructor <;> (go_simp; try exact IntWalk.i64_in _ (by omega)))) rfl (pickBack (po_two 17 (by decide)) (by repeat (first | (with_reducible exact Below.refl _ _) | (with_reducible exact HB0.out) | (with_reducible refine Below.setCell ?_ (by first | omega | (simp; done) | (simp; omega)) _) | (with_reducible refine Below.drew ?_) | (with_reducible refine below_dN _ ?_) | (with_reducible refine Below.alloc ?_ (by first | omega | (simp; done) | (simp; omega)) _))))
      · obtain ⟨q, hq, wq⟩ := within12_int K 4 (by decide) (by decide)
        have WQI := Lib.hid wq
        clear wq hy
        go_wp2_with fail
        refine (WQI.out _ (by first | rfl | simp) _).mono ?_
        rintro e _ ⟨rfl, rfl⟩
        rcases (show q = 0 ∨ q = 1 ∨ q = 2 ∨ q = 3 by omega) with rfl | rfl | rfl | rfl
        · go_wp2_with fail
          refine bodyPost_ret (v := .agg #[.int .i64 0, .int .i64 0, .int .i64 12, .int .i64 (0), .int .i64 (0)]) ((fun (W : World) (h : Cells5 W w.heap.size 0 0 (12) (0) (0)) => (by obtain ⟨c0, c1, c2, c3, c4⟩ := h; simp [results, Tryd.results48, go_sem, c0, c1, c2, c3, c4] : (results _ _).run _ W = .ok _ W)) _ (by constructor <;> (go_simp; try exact IntWalk.i64_in _ (by omega)))) rfl (pickBack (po_two 12 (by decide)) (by repeat (first | (with_reducible exact Below.refl _ _) | (with_reducible exact HB0.out) | (with_reducible refine Below.setCell ?_ (by first | omega | (simp; done) | (simp; omega)) _) | (with_reducible refine Below.drew ?_) | (with_reducible refine below_dN _ ?_) | (with_reducible refine Below.alloc ?_ (by first | omega | (simp; done) | (simp; omega)) _))))
        · go_wp2_with fail
          refine bodyPost_ret (v := .agg #[.int .i64 0, .int .i64 0, .int .i64 13, .int .i64 (0), .int .i64 (0)]) ((fun (W : World) (h : Cells5 W w.heap.size 0 0 (13) (0) (0)) => (by obtain ⟨c0, c1, c2, c3, c4⟩ := h; simp [results, Tryd.results48, go_sem, c0, c1, c2, c3, c4] : (results _ _).run _ W = .ok _ W)) _ (by constructor <;> (go_simp; try exact IntWalk.i64_in _ (by omega)))) rfl (pickBack (po_two 13 (by decide)) (by repeat (first | (with_reducible exact Below.refl _ _) | (with_reducible exact HB0.out) | (with_reducible refine Below.setCell ?_ (by first | omega | (simp; done) | (simp; omega)) _) | (with_reducible refine Below.drew ?_) | (with_reducible refine below_dN _ ?_) | (with_reducible refine Below.alloc ?_ (by first | omega | (simp; done) | (simp; omega)) _))))
        · go_wp2_with fail
          refine bodyPost_ret (v := .agg #[.int .i64 0, .int .i64 0, .int .i64 14, .int .i64 (0), .int .i64 (0)]) ((fun (W : World) (h : Cells5 W w.heap.size 0 0 (14) (0) (0)) => (by obtain ⟨c0, c1, c2, c3, c4⟩ := h; simp [results, Tryd.results48, go_sem, c0, c1, c2, c3, c4] : (results _ _).run _ W = .ok _ W)) _ (by constructor <;> (go_simp; try exact IntWalk.i64_in _ (by omega)))) rfl (pickBack (po_two 14 (by decide)) (by repeat (first | (with_reducible exact Below.refl _ _) | (with_reducible exact HB0.out) | (with_reducible refine Below.setCell ?_ (by first | omega | (simp; done) | (simp; omega)) _) | (with_reducible refine Below.drew ?_) | (with_reducible refine below_dN _ ?_) | (with_reducible refine Below.alloc ?_ (by first | omega | (simp; done) | (simp; omega)) _))))
        · go_wp2_with fail
          refine bodyPost_ret (v := .agg #[.int .i64 0, .int .i64 0, .int .i64 17, .int .i64 (0), .int .i64 (0)]) ((fun (W : World) (h : Cells5 W w.heap.size 0 0 (17) (0) (0)) => (by obtain ⟨c0, c1, c2, c3, c4⟩ := h; simp [results, Tryd.results48, go_sem, c0, c1, c2, c3, c4] : (results _ _).run _ W = .ok _ W)) _ (by constructor <;> (go_simp; try exact IntWalk.i64_in _ (by omega)))) rfl (pickBack (po_two 17 (by decide)) (by repeat (first | (with_reducible exact Below.refl _ _) | (with_reducible exact HB0.out) | (with_reducible refine Below.setCell ?_ (by first | omega | (simp; done) | (simp; omega)) _) | (with_reducible refine Below.drew ?_) | (with_reducible refine below_dN _ ?_) | (with_reducible refine Below.alloc ?_ (by first | omega | (simp; done) | (simp; omega)) _))))
      · obtain ⟨q, hq, wq⟩ := within12_int K 7 (by decide) (by decide)
        have WQI := Lib.hid wq
        clear wq hy
        go_wp2_with fail
        refine (WQI.out _ (by first | rfl | simp) _).mono ?_
        rintro e _ ⟨rfl, rfl⟩
        rcases (show q = 0 ∨ q = 1 ∨ q = 2 ∨ q = 3 ∨ q = 4 ∨ q = 5 ∨ q = 6 by omega) with rfl | rfl | rfl | rfl | rfl | rfl | rfl
        · go_wp2_with fail
          refine bodyPost_ret (v := .agg #[.int .i64 0, .int .i64 0, .int .i64 7, .int .i64 (0), .int .i64 (0)]) ((fun (W : World) (h : Cells5 W w.heap.size 0 0 (7) (0) (0)) => (by obtain ⟨c0, c1, c2, c3, c4⟩ := h; simp [results, Tryd.results48, go_sem, c0, c1, c2, c3, c4] : (results _ _).run _ W = .ok _ W)) _ (by constructor <;> (go_simp; try exact IntWalk.i64_in _ (by omega)))) rfl (pickBack (po_two 7 (by decide)) (by repeat (first | (with_reducible exact Below.refl _ _) | (with_reducible exact HB0.out) | (with_reducible refine Below.setCell ?_ (by first | omega | (simp; done) | (simp; omega)) _) | (with_reducible refine Below.drew ?_) | (with_reducible refine below_dN _ ?_) | (with_reducible refine Below.alloc ?_ (by first | omega | (simp; done) | (simp; omega)) _))))
        · go_wp2_with fail
          refine bodyPost_ret (v := .agg #[.int .i64 0, .int .i64 0, .int .i64 8, .int .i64 (0), .int .i64 (0)]) ((fun (W : World) (h : Cells5 W w.heap.size 0 0 (8) (0) (0)) => (by obtain ⟨c0, c1, c2, c3, c4⟩ := h; simp [results, Tryd.results48, go_sem, c0, c1, c2, c3, c4] : (results _ _).run _ W = .ok _ W)) _ (by constructor <;> (go_simp; try exact IntWalk.i64_in _ (by omega)))) rfl (pickBack (po_two 8 (by decide)) (by repeat (first | (with_reducible exact Below.refl _ _) | (with_reducible exact HB0.out) | (with_reducible refine Below.setCell ?_ (by first | omega | (simp; done) | (simp; omega)) _) | (with_reducible refine Below.drew ?_) | (with_reducible refine below_dN _ ?_) | (with_reducible refine Below.alloc ?_ (by first | omega | (simp; done) | (simp; omega)) _))))
        · go_wp2_with fail
          refine bodyPost_ret (v := .agg #[.int .i64 0, .int .i64 0, .int .i64 9, .int .i64 (0), .int .i64 (0)]) ((fun (W : World) (h : Cells5 W w.heap.size 0 0 (9) (0) (0)) => (by obtain ⟨c0, c1, c2, c3, c4⟩ := h; simp [results, Tryd.results48, go_sem, c0, c1, c2, c3, c4] : (results _ _).run _ W = .ok _ W)) _ (by constructor <;> (go_simp; try exact IntWalk.i64_in _ (by omega)))) rfl (pickBack (po_two 9 (by decide)) (by repeat (first | (with_reducible exact Below.refl _ _) | (with_reducible exact HB0.out) | (with_reducible refine Below.setCell ?_ (by first | omega | (simp; done) | (simp; omega)) _) | (with_reducible refine Below.drew ?_) | (with_reducible refine below_dN _ ?_) | (with_reducible refine Below.alloc ?_ (by first | omega | (simp; done) | (simp; omega)) _))))
        · go_wp2_with fail
          refine bodyPost_ret (v := .agg #[.int .i64 0, .int .i64 0, .int .i64 10, .int .i64 (0), .int .i64 (0)]) ((fun (W : World) (h : Cells5 W w.heap.size 0 0 (10) (0) (0)) => (by obtain ⟨c0, c1, c2, c3, c4⟩ := h; simp [results, Tryd.results48, go_sem, c0, c1, c2, c3, c4] : (results _ _).run _ W = .ok _ W)) _ (by constructor <;> (go_simp; try exact IntWalk.i64_in _ (by omega)))) rfl (pickBack (po_two 10 (by decide)) (by repeat (first | (with_reducible exact Below.refl _ _) | (with_reducible exact HB0.out) | (with_reducible refine Below.setCell ?_ (by first | omega | (simp; done) | (simp; omega)) _) | (with_reducible refine Below.drew ?_) | (with_reducible refine below_dN _ ?_) | (with_reducible refine Below.alloc ?_ (by first | omega | (simp; done) | (simp; omega)) _))))
        · go_wp2_with fail
          refine bodyPost_ret (v := .agg #[.int .i64 0, .int .i64 0, .int .i64 11, .int .i64 (0), .int .i64 (0)]) ((fun (W : World) (h : Cells5 W w.heap.size 0 0 (11) (0) (0)) => (by obtain ⟨c0, c1, c2, c3, c4⟩ := h; simp [results, Tryd.results48, go_sem, c0, c1, c2, c3, c4] : (results _ _).run _ W = .ok _ W)) _ (by constructor <;> (go_simp; try exact IntWalk.i64_in _ (by omega)))) rfl (pickBack (po_two 11 (by decide)) (by repeat (first | (with_reducible exact Below.refl _ _) | (with_reducible exact HB0.out) | (with_reducible refine Below.setCell ?_ (by first | omega | (simp; done) | (simp; omega)) _) | (with_reducible refine Below.drew ?_) | (with_reducible refine below_dN _ ?_) | (with_reducible refine Below.alloc ?_ (by first | omega | (simp; done) | (simp; omega)) _))))
        · go_wp2_with fail
          refine bodyPost_ret (v := .agg #[.int .i64 0, .int .i64 0, .int .i64 17, .int .i64 (0), .int .i64 (0)]) ((fun (W : World) (h : Cells5 W w.heap.size 0 0 (17) (0) (0)) => (by obtain ⟨c0, c1, c2, c3, c4⟩ := h; simp [results, Tryd.results48, go_sem, c0, c1, c2, c3, c4] : (results _ _).run _ W = .ok _ W)) _ (by constructor <;> (go_simp; try exact IntWalk.i64_in _ (by omega)))) rfl (pickBack (po_two 17 (by decide)) (by repeat (first | (with_reducible exact Below.refl _ _) | (with_reducible exact HB0.out) | (with_reducible refine Below.setCell ?_ (by first | omega | (simp; done) | (simp; omega)) _) | (with_reducible refine Below.drew ?_) | (with_reducible refine below_dN _ ?_) | (with_reducible refine Below.alloc ?_ (by first | omega | (simp; done) | (simp; omega)) _))))
        · go_wp2_with fail
          refine bodyPost_ret (v := .agg #[.int .i64 0, .int .i64 0, .int .i64 16, .int .i64 (0), .int .i64 (0)]) ((fun (W : World) (h : Cells5 W w.heap.size 0 0 (16) (0) (0)) => (by obtain ⟨c0, c1, c2, c3, c4⟩ := h; simp [results, Tryd.results48, go_sem, c0, c1, c2, c3, c4] : (results _ _).run _ W = .ok _ W)) _ (by constructor <;> (go_simp; try exact IntWalk.i64_in _ (by omega)))) rfl (pickBack (po_two 16 (by decide)) (by repeat (first | (with_reducible exact Below.refl _ _) | (with_reducible exact HB0.out) | (with_reducible refine Below.setCell ?_ (by first | omega | (simp; done) | (simp; omega)) _) | (with_reducible refine Below.drew ?_) | (with_reducible refine below_dN _ ?_) | (with_reducible refine Below.alloc ?_ (by first | omega | (simp; done) | (simp; omega)) _))))
      · obtain ⟨q, hq, wq⟩ := within12_int K 7 (by decide) (by decide)
        have WQI := Lib.hid wq
        clear wq hy
        go_wp2_with fail
        refine (WQI.out _ (by first | rfl | simp) _).mono ?_
        rintro e _ ⟨rfl, rfl⟩
        rcases (show q = 0 ∨ q = 1 ∨ q = 2 ∨ q = 3 ∨ q = 4 ∨ q = 5 ∨ q = 6 by omega) with rfl | rfl | rfl | rfl | rfl | rfl | rfl
        · go_wp2_with fail
          refine bodyPost_ret (v := .agg #[.int .i64 0, .int .i64 0, .int .i64 7, .int .i64 (0), .int .i64 (0)]) ((fun (W : World) (h : Cells5 W w.heap.size 0 0 (7) (0) (0)) => (by obtain ⟨c0, c1, c2, c3, c4⟩ := h; simp [results, Tryd.results48, go_sem, c0, c1, c2, c3, c4] : (results _ _).run _ W = .ok _ W)) _ (by constructor <;> (go_simp; try exact IntWalk.i64_in _ (by omega)))) rfl (pickBack (po_two 7 (by decide)) (by repeat (first | (with_reducible exact Below.refl _ _) | (with_reducible exact HB0.out) | (with_reducible refine Below.setCell ?_ (by first | omega | (simp; done) | (simp; omega)) _) | (with_reducible refine Below.drew ?_) | (with_reducible refine below_dN _ ?_) | (with_reducible refine Below.alloc ?_ (by first | omega | (simp; done) | (simp; omega)) _))))
        · go_wp2_with fail
          refine bodyPost_ret (v := .agg #[.int .i64 0, .int .i64 0, .int .i64 8, .int .i64 (0), .int .i64 (0)]) ((fun (W : World) (h : Cells5 W w.heap.size 0 0 (8) (0) (0)) => (by obtain ⟨c0, c1, c2, c3, c4⟩ := h; simp [results, Tryd.results48, go_sem, c0, c1, c2, c3, c4] : (results _ _).run _ W = .ok _ W)) _ (by constructor <;> (go_simp; try exact IntWalk.i64_in _ (by omega)))) rfl (pickBack (po_two 8 (by decide)) (by repeat (first | (with_reducible exact Below.refl _ _) | (with_reducible exact HB0.out) | (with_reducible refine Below.setCell ?_ (by first | omega | (simp; done) | (simp; omega)) _) | (with_reducible refine Below.drew ?_) | (with_reducible refine below_dN _ ?_) | (with_reducible refine Below.alloc ?_ (by first | omega | (simp; done) | (simp; omega)) _))))
        · go_wp2_with fail
          refine bodyPost_ret (v := .agg #[.int .i64 0, .int .i64 0, .int .i64 9, .int .i64 (0), .int .i64 (0)]) ((fun (W : World) (h : Cells5 W w.heap.size 0 0 (9) (0) (0)) => (by obtain ⟨c0, c1, c2, c3, c4⟩ := h; simp [results, Tryd.results48, go_sem, c0, c1, c2, c3, c4] : (results _ _).run _ W = .ok _ W)) _ (by constructor <;> (go_simp; try exact IntWalk.i64_in _ (by omega)))) rfl (pickBack (po_two 9 (by decide)) (by repeat (first | (with_reducible exact Below.refl _ _) | (with_reducible exact HB0.out) | (with_reducible refine Below.setCell ?_ (by first | omega | (simp; done) | (simp; omega)) _) | (with_reducible refine Below.drew ?_) | (with_reducible refine below_dN _ ?_) | (with_reducible refine Below.alloc ?_ (by first | omega | (simp; done) | (simp; omega)) _))))
        · go_wp2_with fail
          refine bodyPost_ret (v := .agg #[.int .i64 0, .int .i64 0, .int .i64 10, .int .i64 (0), .int .i64 (0)]) ((fun (W : World) (h : Cells5 W w.heap.size 0 0 (10) (0) (0)) => (by obtain ⟨c0, c1, c2, c3, c4⟩ := h; simp [results, Tryd.results48, go_sem, c0, c1, c2, c3, c4] : (results _ _).run _ W = .ok _ W)) _ (by constructor <;> (go_simp; try exact IntWalk.i64_in _ (by omega)))) rfl (pickBack (po_two 10 (by decide)) (by repeat (first | (with_reducible exact Below.refl _ _) | (with_reducible exact HB0.out) | (with_reducible refine Below.setCell ?_ (by first | omega | (simp; done) | (simp; omega)) _) | (with_reducible refine Below.drew ?_) | (with_reducible refine below_dN _ ?_) | (with_reducible refine Below.alloc ?_ (by first | omega | (simp; done) | (simp; omega)) _))))
        · go_wp2_with fail
          refine bodyPost_ret (v := .agg #[.int .i64 0, .int .i64 0, .int .i64 11, .int .i64 (0), .int .i64 (0)]) ((fun (W : World) (h : Cells5 W w.heap.size 0 0 (11) (0) (0)) => (by obtain ⟨c0, c1, c2, c3, c4⟩ := h; simp [results, Tryd.results48, go_sem, c0, c1, c2, c3, c4] : (results _ _).run _ W = .ok _ W)) _ (by constructor <;> (go_simp; try exact IntWalk.i64_in _ (by omega)))) rfl (pickBack (po_two 11 (by decide)) (by repeat (first | (with_reducible exact Below.refl _ _) | (with_reducible exact HB0.out) | (with_reducible refine Below.setCell ?_ (by first | omega | (simp; done) | (simp; omega)) _) | (with_reducible refine Below.drew ?_) | (with_reducible refine below_dN _ ?_) | (with_reducible refine Below.alloc ?_ (by first | omega | (simp; done) | (simp; omega)) _))))
        · go_wp2_with fail
          refine bodyPost_ret (v := .agg #[.int .i64 0, .int .i64 0, .int .i64 17, .int .i64 (0), .int .i64 (0)]) ((fun (W : World) (h : Cells5 W w.heap.size 0 0 (17) (0) (0)) => (by obtain ⟨c0, c1, c2, c3, c4⟩ := h; simp [results, Tryd.results48, go_sem, c0, c1, c2, c3, c4] : (results _ _).run _ W = .ok _ W)) _ (by constructor <;> (go_simp; try exact IntWalk.i64_in _ (by omega)))) rfl (pickBack (po_two 17 (by decide)) (by repeat (first | (with_reducible exact Below.refl _ _) | (with_reducible exact HB0.out) | (with_reducible refine Below.setCell ?_ (by first | omega | (simp; done) | (simp; omega)) _) | (with_reducible refine Below.drew ?_) | (with_reducible refine below_dN _ ?_) | (with_reducible refine Below.alloc ?_ (by first | omega | (simp; done) | (simp; omega)) _))))
        · go_wp2_with fail
          refine bodyPost_ret (v := .agg #[.int .i64 0, .int .i64 0, .int .i64 16, .int .i64 (0), .int .i64 (0)]) ((fun (W : World) (h : Cells5 W w.heap.size 0 0 (16) (0) (0)) => (by obtain ⟨c0, c1, c2, c3, c4⟩ := h; simp [results, Tryd.results48, go_sem, c0, c1, c2, c3, c4] : (results _ _).run _ W = .ok _ W)) _ (by constructor <;> (go_simp; try exact IntWalk.i64_in _ (by omega)))) rfl (pickBack (po_two 16 (by decide)) (by repeat (first | (with_reducible exact Below.refl _ _) | (with_reducible exact HB0.out) | (with_reducible refine Below.setCell ?_ (by first | omega | (simp; done) | (simp; omega)) _) | (with_reducible refine Below.drew ?_) | (with_reducible refine below_dN _ ?_) | (with_reducible refine Below.alloc ?_ (by first | omega | (simp; done) | (simp; omega)) _))))
      · obtain ⟨q, hq, wq⟩ := within12_int K 3 (by decide) (by decide)
        have WQI := Lib.hid wq
        clear wq hy
        go_wp2_with fail
        refine (WQI.out _ (by first | rfl | simp) _).mono ?_
        rintro e _ ⟨rfl, rfl⟩
        rcases (show q = 0 ∨ q = 1 ∨ q = 2 by omega) with rfl | rfl | rfl
        · go_wp2_with fail
          refine bodyPost_ret (v := .agg #[.int .i64 0, .int .i64 0, .int .i64 7, .int .i64 (0), .int .i64 (0)]) ((fun (W : World) (h : Cells5 W w.heap.size 0 0 (7) (0) (0)) => (by obtain ⟨c0, c1, c2, c3, c4⟩ := h; simp [results, Tryd.results48, go_sem, c0, c1, c2, c3, c4] : (results _ _).run _ W = .ok _ W)) _ (by constructor <;> (go_simp; try exact IntWalk.i64_in _ (by omega)))) rfl (pickBack (po_two 7 (by decide)) (by repeat (first | (with_reducible exact Below.refl _ _) | (with_reducible exact HB0.out) | (with_reducible refine Below.setCell ?_ (by first | omega | (simp; done) | (simp; omega)) _) | (with_reducible refine Below.drew ?_) | (with_reducible refine below_dN _ ?_) | (with_reducible refine Below.alloc ?_ (by first | omega | (simp; done) | (simp; omega)) _))))
        · go_wp2_with fail
          refine bodyPost_ret (v := .agg #[.int .i64 0, .int .i64 0, .int .i64 8, .int .i64 (0), .int .i64 (0)]) ((fun (W : World) (h : Cells5 W w.heap.size 0 0 (8) (0) (0)) => (by obtain ⟨c0, c1, c2, c3, c4⟩ := h; simp [results, Tryd.results48, go_sem, c0, c1, c2, c3, c4] : (results _ _).run _ W = .ok _ W)) _ (by constructor <;> (go_simp; try exact IntWalk.i64_in _ (by omega)))) rfl (pickBack (po_two 8 (by decide)) (by repeat (first | (with_reducible exact Below.refl _ _) | (with_reducible exact HB0.out) | (with_reducible refine Below.setCell ?_ (by first | omega | (simp; done) | (simp; omega)) _) | (with_reducible refine Below.drew ?_) | (with_reducible refine below_dN _ ?_) | (with_reducible refine Below.alloc ?_ (by first | omega | (simp; done) | (simp; omega)) _))))
        · go_wp2_with fail
          refine bodyPost_ret (v := .agg #[.int .i64 0, .int .i64 0, .int .i64 17, .int .i64 (0), .int .i64 (0)]) ((fun (W : World) (h : Cells5 W w.heap.size 0 0 (17) (0) (0)) => (by obtain ⟨c0, c1, c2, c3, c4⟩ := h; simp [results, Tryd.results48, go_sem, c0, c1, c2, c3, c4] : (results _ _).run _ W = .ok _ W)) _ (by constructor <;> (go_simp; try exact IntWalk.i64_in _ (by omega)))) rfl (pickBack (po_two 17 (by decide)) (by repeat (first | (with_reducible exact Below.refl _ _) | (with_reducible exact HB0.out) | (with_reducible refine Below.setCell ?_ (by first | omega | (simp; done) | (simp; omega)) _) | (with_reducible refine Below.drew ?_) | (with_reducible refine below_dN _ ?_) | (with_reducible refine Below.alloc ?_ (by first | omega | (simp; done) | (simp; omega)) _))))
    · have hxy' : (x == y) = false := by simpa using hxy
      have hyx' : (y == x) = false := by simpa using Ne.symm hxy
      clear hxy
      go_enter Tryd.func48, Tryd.ntmps48
      go_wp2_with (first | (go_at_call 35; first | ((with_reducible refine (W16.out _).mono ?_); rintro e _ ⟨rfl, rfl⟩)))
      go_quiet (fail)
      go_wp2_with (first | (go_at_call 35; first | ((with_reducible refine (W16.out _).mono ?_); rintro e _ ⟨rfl, rfl⟩) | ((with_reducible refine (W4.out _ _).mono ?_); rintro e _ ⟨q4, hq4, rfl, rfl⟩)))
      refine bodyPost_ret (v := .agg #[.int .i64 0, .int .i64 0, .int .i64 24, .int .i64 ((q4 : Int)), .int .i64 (0)]) ((fun (W : World) (h : Cells5 W w.heap.size 0 0 (24) ((q4 : Int)) (0)) => (by obtain ⟨c0, c1, c2, c3, c4⟩ := h; simp [results, Tryd.results48, go_sem, c0, c1, c2, c3, c4] : (results _ _).run _ W = .ok _ W)) _ (by constructor <;> (go_simp; try exact IntWalk.i64_in _ (by omega)))) rfl (pickBack (po_in _ hq4) (by repeat (first | (with_reducible exact Below.refl _ _) | (with_reducible exact HB0.out) | (with_reducible refine Below.setCell ?_ (by first | omega | (simp; done) | (simp; omega)) _) | (with_reducible refine Below.drew ?_) | (with_reducible refine below_dN _ ?_) | (with_reducible refine Below.alloc ?_ (by first | omega | (simp; done) | (simp; omega)) _))))
  · have hl1 : st.length ≤ 1 := by
      rcases nil_or_app st with rfl | ⟨r, b, rfl⟩
      · simp
      · rcases nil_or_app r with rfl | ⟨r', c', rfl⟩
        · simp
        · exact absurd ⟨r', c', b, by simp⟩ h2
    have hl1' : ¬ (1 : Int) < st.length := by omega
    have hl2' : decide ((1 : Int) < st.length) = false := decide_eq_false hl1'
    clear h2 hs hsk
    go_enter Tryd.func48, Tryd.ntmps48
    go_wp2_with (first | (go_at_call 35; first | ((with_reducible refine (W16.out _).mono ?_); rintro e _ ⟨rfl, rfl⟩)))
    go_quiet (fail)
    go_wp2_with (first | (go_at_call 35; first | ((with_reducible refine (W16.out _).mono ?_); rintro e _ ⟨rfl, rfl⟩) | ((with_reducible refine (W4.out _ _).mono ?_); rintro e _ ⟨q4, hq4, rfl, rfl⟩)))
    refine bodyPost_ret (v := .agg #[.int .i64 0, .int .i64 0, .int .i64 24, .int .i64 ((q4 : Int)), .int .i64 (0)]) ((fun (W : World) (h : Cells5 W w.heap.size 0 0 (24) ((q4 : Int)) (0)) => (by obtain ⟨c0, c1, c2, c3, c4⟩ := h; simp [results, Tryd.results48, go_sem, c0, c1, c2, c3, c4] : (results _ _).run _ W = .ok _ W)) _ (by constructor <;> (go_simp; try exact IntWalk.i64_in _ (by omega)))) rfl (pickBack (po_in _ hq4) (by repeat (first | (with_reducible exact Below.refl _ _) | (with_reducible exact HB0.out) | (with_reducible refine Below.setCell ?_ (by first | omega | (simp; done) | (simp; omega)) _) | (with_reducible refine Below.drew ?_) | (with_reducible refine below_dN _ ?_) | (with_reducible refine Below.alloc ?_ (by first | omega | (simp; done) | (simp; omega)) _))))
set_option maxHeartbeats 8000000 in
set_option maxRecDepth 100000 in
theorem pick_8 (A : Option Addr) (c : Nat) (cells : List CellD) (n : Int) (S : Option Addr) (cs : Nat) (st : List Int) (funcs : Nat) (at_ : Nat) (P : Option Addr) (cp : Nat) (sp : List (Nat × List Int)) (w : World) (hn : I64 n) (hr : Row w w.heap.size 6 A cells.length (cellRow cells)) (hc : cells.length ≤ c) (hcl : 0 < cells.length ∧ cells.length ≤ 200)
    (hs : Row w w.heap.size 1 S st.length (st.map (Value.int .i64))) (hsc : st.length ≤ cs) (hs8 : st.length ≤ 8) (hsk : ∀ x ∈ st, 1 ≤ x ∧ x ≤ 6) (hf : funcs ≤ 2) (hat : at_ < 100) (hp : SpotsAt w w.heap.size P sp) (hpc : sp.length ≤ cp) (hpl : sp.length ≤ 100) (hpa : ∀ x ∈ sp, x.1 < 200 ∧ x.2.length ≤ 8) (h16 : n % 16 = 8) :
    Calls Tryd.prog 48 #[.slice A cells.length c, .int .i64 n, .slice S st.length cs, .int .i64 funcs, .int .i64 at_, .slice P sp.length cp] w (PickBack w cells st funcs at_ sp) := by
  have W16 := Lib.hid (fun W => show Calls Tryd.prog 35 #[.int .i64 n, .int .i64 16] W (fun e w' => e = .returned (.int .i64 8) ∧ W = w') from by have h := within12_any n 16 (by decide) (by decide) W; rw [h16] at h; exact h)
  have W4 := Lib.hid (fun (a : Int) (W : World) => show Calls Tryd.prog 35 #[.int .i64 a, .int .i64 4] W (fun e w' => ∃ q : Nat, q < 4 ∧ e = .returned (.int .i64 q) ∧ W = w') from within12_nat a 4 (by decide) (by decide) W)
  have W6 := Lib.hid (fun (a : Int) (W : World) => show Calls Tryd.prog 35 #[.int .i64 a, .int .i64 6] W (fun e w' => ∃ q : Nat, q < 6 ∧ e = .returned (.int .i64 q) ∧ W = w') from within12_nat a 6 (by decide) (by decide) W)
  have WL := Lib.hid (fun a W => within12_nat a cells.length hcl.1 (by omega) W)
  obtain ⟨K, hK⟩ : ∃ K, IntKind.i64.wrap (n.tdiv 32) = K := ⟨_, rfl⟩
  obtain ⟨hcl0, hcl1⟩ := hcl
  have hcI : (cells.length : Int) ≤ c := by omega
  have hcl2 : (cells.length : Int) ≤ 200 := by omega
  clear h16 hr hp hpa
  have HQ6 := Lib.hid (show ∀ q : Nat, q < 6 → (q : Int) < 6 from fun q h => by omega)
  have HF0 := Lib.hid (show Five (w.alloc (.cells #[.int .i64 0, .int .i64 0, .int .i64 0, .int .i64 0, .int .i64 0] 67)) w.heap.size 0 0 0 0 0 from by constructor <;> go_simp)
  have HB0 := Lib.hid (show Below w.heap.size w (w.alloc (.cells #[.int .i64 0, .int .i64 0, .int .i64 0, .int .i64 0, .int .i64 0] 67)) from (Below.refl _ w).alloc (Nat.le_refl _) _)
  have hlt0 : w.heap.size < (w.alloc (.cells #[.int .i64 0, .int .i64 0, .int .i64 0, .int .i64 0, .int .i64 0] 67)).heap.size := by simp
  by_cases h2 : ∃ r x y, st = r ++ [x, y]
  · obtain ⟨r, x, y, rfl⟩ := h2
    obtain ⟨m, hm⟩ : ∃ m, r.length = m := ⟨_, rfl⟩
    have hl : (r ++ [x, y]).length = m + 2 := by simp [hm]
    rw [hl] at hs hsc hs8
    obtain ⟨sb, so, hS, hsb, ea⟩ := row_top (j := 0) hs hm (by decide) rfl
    rw [Nat.add_zero] at ea
    obtain ⟨sb', so', hS', _, eb⟩ := row_top (j := 1) hs hm (by decide) rfl
    rw [Nat.add_assoc] at eb
    obtain ⟨rfl, rfl⟩ : sb = sb' ∧ so = so' := by rw [hS] at hS'; injection hS' with e; injection e with e1 e2; exact ⟨e1, e2⟩
    subst hS
    have hk7 : (m : Int) + 2 - 1 = m + 1 := by omega
    have hk8 : (m : Int) + 2 - 2 = m := by omega
    have hk9 : ((m : Int) + 1).toNat = m + 1 := by omega
    have hk1 : (m : Int) + 2 ≤ cs := by omega
    have hk4 : (m : Int) ≤ 8 := by omega
    have HY := Lib.hid (hsk y (by simp))
    have hd1 : decide ((1 : Int) < (m : Int) + 2) = true := decide_eq_true (by omega)
    have hd2 : (1 : Int) < (m : Int) + 2 := by omega
    rw [hl]
    clear hs hsk hS' hm hl
    by_cases hxy : x = y
    · subst hxy
      go_enter Tryd.func48, Tryd.ntmps48
      go_wp2_with (first | (go_at_call 35; first | ((with_reducible refine (W16.out _).mono ?_); rintro e _ ⟨rfl, rfl⟩)))
      go_quiet (fail)
      have hy := HY.out
      rcases (show x = 1 ∨ x = 2 ∨ x = 3 ∨ x = 4 ∨ x = 5 ∨ x = 6 by omega) with rfl | rfl | rfl | rfl | rfl | rfl
      · obtain ⟨q, hq, wq⟩ := within12_int K 3 (by decide) (by decide)
        have WQI := Lib.hid wq
        clear wq hy
        go_wp2_with fail
        refine (WQI.out _ (by first | rfl | simp) _).mono ?_
        rintro e _ ⟨rfl, rfl⟩
        rcases (show q = 0 ∨ q = 1 ∨ q = 2 by omega) with rfl | rfl | rfl
        · go_wp2_with fail
          refine bodyPost_ret (v := .agg #[.int .i64 0, .int .i64 0, .int .i64 12, .int .i64 (0), .int .i64 (0)]) ((fun (W : World) (h : Cells5 W w.heap.size 0 0 (12) (0) (0)) => (by obtain ⟨c0, c1, c2, c3, c4⟩ := h; simp [results, Tryd.results48, go_sem, c0, c1, c2, c3, c4] : (results _ _).run _ W = .ok _ W)) _ (by constructor <;> (go_simp; try exact IntWalk.i64_in _ (by omega)))) rfl (pickBack (po_two 12 (by decide)) (by repeat (first | (with_reducible exact Below.refl _ _) | (with_reducible exact HB0.out) | (with_reducible refine Below.setCell ?_ (by first | omega | (simp; done) | (simp; omega)) _) | (with_reducible refine Below.drew ?_) | (with_reducible refine below_dN _ ?_) | (with_reducible refine Below.alloc ?_ (by first | omega | (simp; done) | (simp; omega)) _))))
        · go_wp2_with fail
          refine bodyPost_ret (v := .agg #[.int .i64 0, .int .i64 0, .int .i64 13, .int .i64 (0), .int .i64 (0)]) ((fun (W : World) (h : Cells5 W w.heap.size 0 0 (13) (0) (0)) => (by obtain ⟨c0, c1, c2, c3, c4⟩ := h; simp [results, Tryd.results48, go_sem, c0, c1, c2, c3, c4] : (results _ _).run _ W = .ok _ W)) _ (by constructor <;> (go_simp; try exact IntWalk.i64_in _ (by omega)))) rfl (pickBack (po_two 13 (by decide)) (by repeat (first | (with_reducible exact Below.refl _ _) | (with_reducible exact HB0.out) | (with_reducible refine Below.setCell ?_ (by first | omega | (simp; done) | (simp; omega)) _) | (with_reducible refine Below.drew ?_) | (with_reducible refine below_dN _ ?_) | (with_reducible refine Below.alloc ?_ (by first | omega | (simp; done) | (simp; omega)) _))))
        · go_wp2_with fail
          refine bodyPost_ret (v := .agg #[.int .i64 0, .int .i64 0, .int .i64 14, .int .i64 (0), .int .i64 (0)]) ((fun (W : World) (h : Cells5 W w.heap.size 0 0 (14) (0) (0)) => (by obtain ⟨c0, c1, c2, c3, c4⟩ := h; simp [results, Tryd.results48, go_sem, c0, c1, c2, c3, c4] : (results _ _).run _ W = .ok _ W)) _ (by constructor <;> (go_simp; try exact IntWalk.i64_in _ (by omega)))) rfl (pickBack (po_two 14 (by decide)) (by repeat (first | (with_reducible exact Below.refl _ _) | (with_reducible exact HB0.out) | (with_reducible refine Below.setCell ?_ (by first | omega | (simp; done) | (simp; omega)) _) | (with_reducible refine Below.drew ?_) | (with_reducible refine below_dN _ ?_) | (with_reducible refine Below.alloc ?_ (by first | omega | (simp; done) | (simp; omega)) _))))
      · obtain ⟨q, hq, wq⟩ := within12_int K 4 (by decide) (by decide)
        have WQI := Lib.hid wq
        clear wq hy
        go_wp2_with fail
        refine (WQI.out _ (by first | rfl | simp) _).mono ?_
        rintro e _ ⟨rfl, rfl⟩
        rcases (show q = 0 ∨ q = 1 ∨ q = 2 ∨ q = 3 by omega) with rfl | rfl | rfl | rfl
        · go_wp2_with fail
          refine bodyPost_ret (v := .agg #[.int .i64 0, .int .i64 0, .int .i64 12, .int .i64 (0), .int .i64 (0)]) ((fun (W : World) (h : Cells5 W w.heap.size 0 0 (12) (0) (0)) => (by obtain ⟨c0, c1, c2, c3, c4⟩ := h; simp [results, Tryd.results48, go_sem, c0, c1, c2, c3, c4] : (results _ _).run _ W = .ok _ W)) _ (by constructor <;> (go_simp; try exact IntWalk.i64_in _ (by omega)))) rfl (pickBack (po_two 12 (by decide)) (by repeat (first | (with_reducible exact Below.refl _ _) | (with_reducible exact HB0.out) | (with_reducible refine Below.setCell ?_ (by first | omega | (simp; done) | (simp; omega)) _) | (with_reducible refine Below.drew ?_) | (with_reducible refine below_dN _ ?_) | (with_reducible refine Below.alloc ?_ (by first | omega | (simp; done) | (simp; omega)) _))))
        · go_wp2_with fail
          refine bodyPost_ret (v := .agg #[.int .i64 0, .int .i64 0, .int .i64 13, .int .i64 (0), .int .i64 (0)]) ((fun (W : World) (h : Cells5 W w.heap.size 0 0 (13) (0) (0)) => (by obtain ⟨c0, c1, c2, c3, c4⟩ := h; simp [results, Tryd.results48, go_sem, c0, c1, c2, c3, c4] : (results _ _).run _ W = .ok _ W)) _ (by constructor <;> (go_simp; try exact IntWalk.i64_in _ (by omega)))) rfl (pickBack (po_two 13 (by decide)) (by repeat (first | (with_reducible exact Below.refl _ _) | (with_reducible exact HB0.out) | (with_reducible refine Below.setCell ?_ (by first | omega | (simp; done) | (simp; omega)) _) | (with_reducible refine Below.drew ?_) | (with_reducible refine below_dN _ ?_) | (with_reducible refine Below.alloc ?_ (by first | omega | (simp; done) | (simp; omega)) _))))
        · go_wp2_with fail
          refine bodyPost_ret (v := .agg #[.int .i64 0, .int .i64 0, .int .i64 14, .int .i64 (0), .int .i64 (0)]) ((fun (W : World) (h : Cells5 W w.heap.size 0 0 (14) (0) (0)) => (by obtain ⟨c0, c1, c2, c3, c4⟩ := h; simp [results, Tryd.results48, go_sem, c0, c1, c2, c3, c4] : (results _ _).run _ W = .ok _ W)) _ (by constructor <;> (go_simp; try exact IntWalk.i64_in _ (by omega)))) rfl (pickBack (po_two 14 (by decide)) (by repeat (first | (with_reducible exact Below.refl _ _) | (with_reducible exact HB0.out) | (with_reducible refine Below.setCell ?_ (by first | omega | (simp; done) | (simp; omega)) _) | (with_reducible refine Below.drew ?_) | (with_reducible refine below_dN _ ?_) | (with_reducible refine Below.alloc ?_ (by first | omega | (simp; done) | (simp; omega)) _))))
        · go_wp2_with fail
          refine bodyPost_ret (v := .agg #[.int .i64 0, .int .i64 0, .int .i64 17, .int .i64 (0), .int .i64 (0)]) ((fun (W : World) (h : Cells5 W w.heap.size 0 0 (17) (0) (0)) => (by obtain ⟨c0, c1, c2, c3, c4⟩ := h; simp [results, Tryd.results48, go_sem, c0, c1, c2, c3, c4] : (results _ _).run _ W = .ok _ W)) _ (by constructor <;> (go_simp; try exact IntWalk.i64_in _ (by omega)))) rfl (pickBack (po_two 17 (by decide)) (by repeat (first | (with_reducible exact Below.refl _ _) | (with_reducible exact HB0.out) | (with_reducible refine Below.setCell ?_ (by first | omega | (simp; done) | (simp; omega)) _) | (with_reducible refine Below.drew ?_) | (with_reducible refine below_dN _ ?_) | (with_reducible refine Below.alloc ?_ (by first | omega | (simp; done) | (simp; omega)) _))))
      · obtain ⟨q, hq, wq⟩ := within12_int K 4 (by decide) (by decide)
        have WQI := Lib.hid wq
        clear wq hy
        go_wp2_with fail
        refine (WQI.out _ (by first | rfl | simp) _).mono ?_
        rintro e _ ⟨rfl, rfl⟩
        rcases (show q = 0 ∨ q = 1 ∨ q = 2 ∨ q = 3 by omega) with rfl | rfl | rfl | rfl
        · go_wp2_with fail
          refine bodyPost_ret (v := .agg #[.int .i64 0, .int .i64 0, .int .i64 12, .int .i64 (0), .int .i64 (0)]) ((fun (W : World) (h : Cells5 W w.heap.size 0 0 (12) (0) (0)) => (by obtain ⟨c0, c1, c2, c3, c4⟩ := h; simp [results, Tryd.results48, go_sem, c0, c1, c2, c3, c4] : (results _ _).run _ W = .ok _ W)) _ (by constructor <;> (go_simp; try exact IntWalk.i64_in _ (by omega)))) rfl (pickBack (po_two 12 (by decide)) (by repeat (first | (with_reducible exact Below.refl _ _) | (with_reducible exact HB0.out) | (with_reducible refine Below.setCell ?_ (by first | omega | (simp; done) | (simp; omega)) _) | (with_reducible refine Below.drew ?_) | (with_reducible refine below_dN _ ?_) | (with_reducible refine Below.alloc ?_ (by first | omega | (simp; done) | (simp; omega)) _))))
        · go_wp2_with fail
          refine bodyPost_ret (v := .agg #[.int .i64 0, .int .i64 0, .int .i64 13, .int .i64 (0), .int .i64 (0)]) ((fun (W : World) (h : Cells5 W w.heap.size 0 0 (13) (0) (0)) => (by obtain ⟨c0, c1, c2, c3, c4⟩ := h; simp [results, Tryd.results48, go_sem, c0, c1, c2, c3, c4] : (results _ _).run _ W = .ok _ W)) _ (by constructor <;> (go_simp; try exact IntWalk.i64_in _ (by omega)))) rfl (pickBack (po_two 13 (by decide)) (by repeat (first | (with_reducible exact Below.refl _ _) | (with_reducible exact HB0.out) | (with_reducible refine Below.setCell ?_ (by first | omega | (simp; done) | (simp; omega)) _) | (with_reducible refine Below.drew ?_) | (with_reducible refine below_dN _ ?_) | (with_reducible refine Below.alloc ?_ (by first | omega | (simp; done) | (simp; omega)) _))))
        · go_wp2_with fail
          refine bodyPost_ret (v := .agg #[.int .i64 0, .int .i64 0, .int .i64 14, .int .i64 (0), .int .i64 (0)]) ((fun (W : World) (h : Cells5 W w.heap.size 0 0 (14) (0) (0)) => (by obtain ⟨c0, c1, c2, c3, c4⟩ := h; simp [results, Tryd.results48, go_sem, c0, c1, c2, c3, c4] : (results _ _).run _ W = .ok _ W)) _ (by constructor <;> (go_simp; try exact IntWalk.i64_in _ (by omega)))) rfl (pickBack (po_two 14 (by decide)) (by repeat (first | (with_reducible exact Below.refl _ _) | (with_reducible exact HB0.out) | (with_reducible refine Below.setCell ?_ (by first | omega | (simp; done) | (simp; omega)) _) | (with_reducible refine Below.drew ?_) | (with_reducible refine below_dN _ ?_) | (with_reducible refine Below.alloc ?_ (by first | omega | (simp; done) | (simp; omega)) _))))
        · go_wp2_with fail
          refine bodyPost_ret (v := .agg #[.int .i64 0, .int .i64 0, .int .i64 17, .int .i64 (0), .int .i64 (0)]) ((fun (W : World) (h : Cells5 W w.heap.size 0 0 (17) (0) (0)) => (by obtain ⟨c0, c1, c2, c3, c4⟩ := h; simp [results, Tryd.results48, go_sem, c0, c1, c2, c3, c4] : (results _ _).run _ W = .ok _ W)) _ (by constructor <;> (go_simp; try exact IntWalk.i64_in _ (by omega)))) rfl (pickBack (po_two 17 (by decide)) (by repeat (first | (with_reducible exact Below.refl _ _) | (with_reducible exact HB0.out) | (with_reducible refine Below.setCell ?_ (by first | omega | (simp; done) | (simp; omega)) _) | (with_reducible refine Below.drew ?_) | (with_reducible refine below_dN _ ?_) | (with_reducible refine Below.alloc ?_ (by first | omega | (simp; done) | (simp; omega)) _))))
      · obtain ⟨q, hq, wq⟩ := within12_int K 7 (by decide) (by decide)
        have WQI := Lib.hid wq
        clear wq hy
        go_wp2_with fail
        refine (WQI.out _ (by first | rfl | simp) _).mono ?_
        rintro e _ ⟨rfl, rfl⟩
        rcases (show q = 0 ∨ q = 1 ∨ q = 2 ∨ q = 3 ∨ q = 4 ∨ q = 5 ∨ q = 6 by omega) with rfl | rfl | rfl | rfl | rfl | rfl | rfl
        · go_wp2_with fail
          refine bodyPost_ret (v := .agg #[.int .i64 0, .int .i64 0, .int .i64 7, .int .i64 (0), .int .i64 (0)]) ((fun (W : World) (h : Cells5 W w.heap.size 0 0 (7) (0) (0)) => (by obtain ⟨c0, c1, c2, c3, c4⟩ := h; simp [results, Tryd.results48, go_sem, c0, c1, c2, c3, c4] : (results _ _).run _ W = .ok _ W)) _ (by constructor <;> (go_simp; try exact IntWalk.i64_in _ (by omega)))) rfl (pickBack (po_two 7 (by decide)) (by repeat (first | (with_reducible exact Below.refl _ _) | (with_reducible exact HB0.out) | (with_reducible refine Below.setCell ?_ (by first | omega | (simp; done) | (simp; omega)) _) | (with_reducible refine Below.drew ?_) | (with_reducible refine below_dN _ ?_) | (with_reducible refine Below.alloc ?_ (by first | omega | (simp; done) | (simp; omega)) _))))
        · go_wp2_with fail
          refine bodyPost_ret (v := .agg #[.int .i64 0, .int .i64 0, .int .i64 8, .int .i64 (0), .int .i64 (0)]) ((fun (W : World) (h : Cells5 W w.heap.size 0 0 (8) (0) (0)) => (by obtain ⟨c0, c1, c2, c3, c4⟩ := h; simp [results, Tryd.results48, go_sem, c0, c1, c2, c3, c4] : (results _ _).run _ W = .ok _ W)) _ (by constructor <;> (go_simp; try exact IntWalk.i64_in _ (by omega)))) rfl (pickBack (po_two 8 (by decide)) (by repeat (first | (with_reducible exact Below.refl _ _) | (with_reducible exact HB0.out) | (with_reducible refine Below.setCell ?_ (by first | omega | (simp; done) | (simp; omega)) _) | (with_reducible refine Below.drew ?_) | (with_reducible refine below_dN _ ?_) | (with_reducible refine Below.alloc ?_ (by first | omega | (simp; done) | (simp; omega)) _))))
        · go_wp2_with fail
          refine bodyPost_ret (v := .agg #[.int .i64 0, .int .i64 0, .int .i64 9, .int .i64 (0), .int .i64 (0)]) ((fun (W : World) (h : Cells5 W w.heap.size 0 0 (9) (0) (0)) => (by obtain ⟨c0, c1, c2, c3, c4⟩ := h; simp [results, Tryd.results48, go_sem, c0, c1, c2, c3, c4] : (results _ _).run _ W = .ok _ W)) _ (by constructor <;> (go_simp; try exact IntWalk.i64_in _ (by omega)))) rfl (pickBack (po_two 9 (by decide)) (by repeat (first | (with_reducible exact Below.refl _ _) | (with_reducible exact HB0.out) | (with_reducible refine Below.setCell ?_ (by first | omega | (simp; done) | (simp; omega)) _) | (with_reducible refine Below.drew ?_) | (with_reducible refine below_dN _ ?_) | (with_reducible refine Below.alloc ?_ (by first | omega | (simp; done) | (simp; omega)) _))))
        · go_wp2_with fail
          refine bodyPost_ret (v := .agg #[.int .i64 0, .int .i64 0, .int .i64 10, .int .i64 (0), .int .i64 (0)]) ((fun (W : World) (h : Cells5 W w.heap.size 0 0 (10) (0) (0)) => (by obtain ⟨c0, c1, c2, c3, c4⟩ := h; simp [results, Tryd.results48, go_sem, c0, c1, c2, c3, c4] : (results _ _).run _ W = .ok _ W)) _ (by constructor <;> (go_simp; try exact IntWalk.i64_in _ (by omega)))) rfl (pickBack (po_two 10 (by decide)) (by repeat (first | (with_reducible exact Below.refl _ _) | (with_reducible exact HB0.out) | (with_reducible refine Below.setCell ?_ (by first | omega | (simp; done) | (simp; omega)) _) | (with_reducible refine Below.drew ?_) | (with_reducible refine below_dN _ ?_) | (with_reducible refine Below.alloc ?_ (by first | omega | (simp; done) | (simp; omega)) _))))
        · go_wp2_with fail
          refine bodyPost_ret (v := .agg #[.int .i64 0, .int .i64 0, .int .i64 11, .int .i64 (0), .int .i64 (0)]) ((fun (W : World) (h : Cells5 W w.heap.size 0 0 (11) (0) (0)) => (by obtain ⟨c0, c1, c2, c3, c4⟩ := h; simp [results, Tryd.results48, go_sem, c0, c1, c2, c3, c4] : (results _ _).run _ W = .ok _ W)) _ (by constructor <;> (go_simp; try exact IntWalk.i64_in _ (by omega)))) rfl (pickBack (po_two 11 (by decide)) (by repeat (first | (with_reducible exact Below.refl _ _) | (with_reducible exact HB0.out) | (with_reducible refine Below.setCell ?_ (by first | omega | (simp; done) | (simp; omega)) _) | (with_reducible refine Below.drew ?_) | (with_reducible refine below_dN _ ?_) | (with_reducible refine Below.alloc ?_ (by first | omega | (simp; done) | (simp; omega)) _))))
        · go_wp2_with fail
          refine bodyPost_ret (v := .agg #[.int .i64 0, .int .i64 0, .int .i64 17, .int .i64 (0), .int .i64 (0)]) ((fun (W : World) (h : Cells5 W w.heap.size 0 0 (17) (0) (0)) => (by obtain ⟨c0, c1, c2, c3, c4⟩ := h; simp [results, Tryd.results48, go_sem, c0, c1, c2, c3, c4] : (results _ _).run _ W = .ok _ W)) _ (by constructor <;> (go_simp; try exact IntWalk.i64_in _ (by omega)))) rfl (pickBack (po_two 17 (by decide)) (by repeat (first | (with_reducible exact Below.refl _ _) | (with_reducible exact HB0.out) | (with_reducible refine Below.setCell ?_ (by first | omega | (simp; done) | (simp; omega)) _) | (with_reducible refine Below.drew ?_) | (with_reducible refine below_dN _ ?_) | (with_reducible refine Below.alloc ?_ (by first | omega | (simp; done) | (simp; omega)) _))))
        · go_wp2_with fail
          refine bodyPost_ret (v := .agg #[.int .i64 0, .int .i64 0, .int .i64 16, .int .i64 (0), .int .i64 (0)]) ((fun (W : World) (h : Cells5 W w.heap.size 0 0 (16) (0) (0)) => (by obtain ⟨c0, c1, c2, c3, c4⟩ := h; simp [results, Tryd.results48, go_sem, c0, c1, c2, c3, c4] : (results _ _).run _ W = .ok _ W)) _ (by constructor <;> (go_simp; try exact IntWalk.i64_in _ (by omega)))) rfl (pickBack (po_two 16 (by decide)) (by repeat (first | (with_reducible exact Below.refl _ _) | (with_reducible exact HB0.out) | (with_reducible refine Below.setCell ?_ (by first | omega | (simp; done) | (simp; omega)) _) | (with_reducible refine Below.drew ?_) | (with_reducible refine below_dN _ ?_) | (with_reducible refine Below.alloc ?_ (by first | omega | (simp; done) | (simp; omega)) _))))
      · obtain ⟨q, hq, wq⟩ := within12_int K 7 (by decide) (by decide)
        have WQI := Lib.hid wq
        clear wq hy
        go_wp2_with fail
        refine (WQI.out _ (by first | rfl | simp) _).mono ?_
        rintro e _ ⟨rfl, rfl⟩
        rcases (show q = 0 ∨ q = 1 ∨ q = 2 ∨ q = 3 ∨ q = 4 ∨ q = 5 ∨ q = 6 by omega) with rfl | rfl | rfl | rfl | rfl | rfl | rfl
        · go_wp2_with fail
          refine bodyPost_ret (v := .agg #[.int .i64 0, .int .i64 0, .int .i64 7, .int .i64 (0), .int .i64 (0)]) ((fun (W : World) (h : Cells5 W w.heap.size 0 0 (7) (0) (0)) => (by obtain ⟨c0, c1, c2, c3, c4⟩ := h; simp [results, Tryd.results48, go_sem, c0, c1, c2, c3, c4] : (results _ _).run _ W = .ok _ W)) _ (by constructor <;> (go_simp; try exact IntWalk.i64_in _ (by omega)))) rfl (pickBack (po_two 7 (by decide)) (by repeat (first | (with_reducible exact Below.refl _ _) | (with_reducible exact HB0.out) | (with_reducible refine Below.setCell ?_ (by first | omega | (simp; done) | (simp; omega)) _) | (with_reducible refine Below.drew ?_) | (with_reducible refine below_dN _ ?_) | (with_reducible refine Below.alloc ?_ (by first | omega | (simp; done) | (simp; omega)) _))))
        · go_wp2_with fail
          refine bodyPost_ret (v := .agg #[.int .i64 0, .int .i64 0, .int .i64 8, .int .i64 (0), .int .i64 (0)]) ((fun (W : World) (h : Cells5 W w.heap.size 0 0 (8) (0) (0)) => (by obtain ⟨c0, c1, c2, c3, c4⟩ := h; simp [results, Tryd.results48, go_sem, c0, c1, c2, c3, c4] : (results _ _).run _ W = .ok _ W)) _ (by constructor <;> (go_simp; try exact IntWalk.i64_in _ (by omega)))) rfl (pickBack (po_two 8 (by decide)) (by repeat (first | (with_reducible exact Below.refl _ _) | (with_reducible exact HB0.out) | (with_reducible refine Below.setCell ?_ (by first | omega | (simp; done) | (simp; omega)) _) | (with_reducible refine Below.drew ?_) | (with_reducible refine below_dN _ ?_) | (with_reducible refine Below.alloc ?_ (by first | omega | (simp; done) | (simp; omega)) _))))
        · go_wp2_with fail
          refine bodyPost_ret (v := .agg #[.int .i64 0, .int .i64 0, .int .i64 9, .int .i64 (0), .int .i64 (0)]) ((fun (W : World) (h : Cells5 W w.heap.size 0 0 (9) (0) (0)) => (by obtain ⟨c0, c1, c2, c3, c4⟩ := h; simp [results, Tryd.results48, go_sem, c0, c1, c2, c3, c4] : (results _ _).run _ W = .ok _ W)) _ (by constructor <;> (go_simp; try exact IntWalk.i64_in _ (by omega)))) rfl (pickBack (po_two 9 (by decide)) (by repeat (first | (with_reducible exact Below.refl _ _) | (with_reducible exact HB0.out) | (with_reducible refine Below.setCell ?_ (by first | omega | (simp; done) | (simp; omega)) _) | (with_reducible refine Below.drew ?_) | (with_reducible refine below_dN _ ?_) | (with_reducible refine Below.alloc ?_ (by first | omega | (simp; done) | (simp; omega)) _))))
        · go_wp2_with fail
          refine bodyPost_ret (v := .agg #[.int .i64 0, .int .i64 0, .int .i64 10, .int .i64 (0), .int .i64 (0)]) ((fun (W : World) (h : Cells5 W w.heap.size 0 0 (10) (0) (0)) => (by obtain ⟨c0, c1, c2, c3, c4⟩ := h; simp [results, Tryd.results48, go_sem, c0, c1, c2, c3, c4] : (results _ _).run _ W = .ok _ W)) _ (by constructor <;> (go_simp; try exact IntWalk.i64_in _ (by omega)))) rfl (pickBack (po_two 10 (by decide)) (by repeat (first | (with_reducible exact Below.refl _ _) | (with_reducible exact HB0.out) | (with_reducible refine Below.setCell ?_ (by first | omega | (simp; done) | (simp; omega)) _) | (with_reducible refine Below.drew ?_) | (with_reducible refine below_dN _ ?_) | (with_reducible refine Below.alloc ?_ (by first | omega | (simp; done) | (simp; omega)) _))))
        · go_wp2_with fail
          refine bodyPost_ret (v := .agg #[.int .i64 0, .int .i64 0, .int .i64 11, .int .i64 (0), .int .i64 (0)]) ((fun (W : World) (h : Cells5 W w.heap.size 0 0 (11) (0) (0)) => (by obtain ⟨c0, c1, c2, c3, c4⟩ := h; simp [results, Tryd.results48, go_sem, c0, c1, c2, c3, c4] : (results _ _).run _ W = .ok _ W)) _ (by constructor <;> (go_simp; try exact IntWalk.i64_in _ (by omega)))) rfl (pickBack (po_two 11 (by decide)) (by repeat (first | (with_reducible exact Below.refl _ _) | (with_reducible exact HB0.out) | (with_reducible refine Below.setCell ?_ (by first | omega | (simp; done) | (simp; omega)) _) | (with_reducible refine Below.drew ?_) | (with_reducible refine below_dN _ ?_) | (with_reducible refine Below.alloc ?_ (by first | omega | (simp; done) | (simp; omega)) _))))
        · go_wp2_with fail
          refine bodyPost_ret (v := .agg #[.int .i64 0, .int .i64 0, .int .i64 17, .int .i64 (0), .int .i64 (0)]) ((fun (W : World) (h : Cells5 W w.heap.size 0 0 (17) (0) (0)) => (by obtain ⟨c0, c1, c2, c3, c4⟩ := h; simp [results, Tryd.results48, go_sem, c0, c1, c2, c3, c4] : (results _ _).run _ W = .ok _ W)) _ (by constructor <;> (go_simp; try exact IntWalk.i64_in _ (by omega)))) rfl (pickBack (po_two 17 (by decide)) (by repeat (first | (with_reducible exact Below.refl _ _) | (with_reducible exact HB0.out) | (with_reducible refine Below.setCell ?_ (by first | omega | (simp; done) | (simp; omega)) _) | (with_reducible refine Below.drew ?_) | (with_reducible refine below_dN _ ?_) | (with_reducible refine Below.alloc ?_ (by first | omega | (simp; done) | (simp; omega)) _))))
        · go_wp2_with fail
          refine bodyPost_ret (v := .agg #[.int .i64 0, .int .i64 0, .int .i64 16, .int .i64 (0), .int .i64 (0)]) ((fun (W : World) (h : Cells5 W w.heap.size 0 0 (16) (0) (0)) => (by obtain ⟨c0, c1, c2, c3, c4⟩ := h; simp [results, Tryd.results48, go_sem, c0, c1, c2, c3, c4] : (results _ _).run _ W = .ok _ W)) _ (by constructor <;> (go_simp; try exact IntWalk.i64_in _ (by omega)))) rfl (pickBack (po_two 16 (by decide)) (by repeat (first | (with_reducible exact Below.refl _ _) | (with_reducible exact HB0.out) | (with_reducible refine Below.setCell ?_ (by first | omega | (simp; done) | (simp; omega)) _) | (with_reducible refine Below.drew ?_) | (with_reducible refine below_dN _ ?_) | (with_reducible refine Below.alloc ?_ (by first | omega | (simp; done) | (simp; omega)) _))))
      · obtain ⟨q, hq, wq⟩ := within12_int K 3 (by decide) (by decide)
        have WQI := Lib.hid wq
        clear wq hy
        go_wp2_with fail
        refine (WQI.out _ (by first | rfl | simp) _).mono ?_
        rintro e _ ⟨rfl, rfl⟩
        rcases (show q = 0 ∨ q = 1 ∨ q = 2 by omega) with rfl | rfl | rfl
        · go_wp2_with fail
          refine bodyPost_ret (v := .agg #[.int .i64 0, .int .i64 0, .int .i64 7, .int .i64 (0), .int .i64 (0)]) ((fun (W : World) (h : Cells5 W w.heap.size 0 0 (7) (0) (0)) => (by obtain ⟨c0, c1, c2, c3, c4⟩ := h; simp [results, Tryd.results48, go_sem, c0, c1, c2, c3, c4] : (results _ _).run _ W = .ok _ W)) _ (by constructor <;> (go_simp; try exact IntWalk.i64_in _ (by omega)))) rfl (pickBack (po_two 7 (by decide)) (by repeat (first | (with_reducible exact Below.refl _ _) | (with_reducible exact HB0.out) | (with_reducible refine Below.setCell ?_ (by first | omega | (simp; done) | (simp; omega)) _) | (with_reducible refine Below.drew ?_) | (with_reducible refine below_dN _ ?_) | (with_reducible refine Below.alloc ?_ (by first | omega | (simp; done) | (simp; omega)) _))))
        · go_wp2_with fail
          refine bodyPost_ret (v := .agg #[.int .i64 0, .int .i64 0, .int .i64 8, .int .i64 (0), .int .i64 (0)]) ((fun (W : World) (h : Cells5 W w.heap.size 0 0 (8) (0) (0)) => (by obtain ⟨c0, c1, c2, c3, c4⟩ := h; simp [results, Tryd.results48, go_sem, c0, c1, c2, c3, c4] : (results _ _).run _ W = .ok _ W)) _ (by constructor <;> (go_simp; try exact IntWalk.i64_in _ (by omega)))) rfl (pickBack (po_two 8 (by decide)) (by repeat (first | (with_reducible exact Below.refl _ _) | (with_reducible exact HB0.out) | (with_reducible refine Below.setCell ?_ (by first | omega | (simp; done) | (simp; omega)) _) | (with_reducible refine Below.drew ?_) | (with_reducible refine below_dN _ ?_) | (with_reducible refine Below.alloc ?_ (by first | omega | (simp; done) | (simp; omega)) _))))
        · go_wp2_with fail
          refine bodyPost_ret (v := .agg #[.int .i64 0, .int .i64 0, .int .i64 17, .int .i64 (0), .int .i64 (0)]) ((fun (W : World) (h : Cells5 W w.heap.size 0 0 (17) (0) (0)) => (by obtain ⟨c0, c1, c2, c3, c4⟩ := h; simp [results, Tryd.results48, go_sem, c0, c1, c2, c3, c4] : (results _ _).run _ W = .ok _ W)) _ (by constructor <;> (go_simp; try exact IntWalk.i64_in _ (by omega)))) rfl (pickBack (po_two 17 (by decide)) (by repeat (first | (with_reducible exact Below.refl _ _) | (with_reducible exact HB0.out) | (with_reducible refine Below.setCell ?_ (by first | omega | (simp; done) | (simp; omega)) _) | (with_reducible refine Below.drew ?_) | (with_reducible refine below_dN _ ?_) | (with_reducible refine Below.alloc ?_ (by first | omega | (simp; done) | (simp; omega)) _))))
    · have hxy' : (x == y) = false := by simpa using hxy
      have hyx' : (y == x) = false := by simpa using Ne.symm hxy
      clear hxy
      go_enter Tryd.func48, Tryd.ntmps48
      go_wp2_with (first | (go_at_call 35; first | ((with_reducible refine (W16.out _).mono ?_); rintro e _ ⟨rfl, rfl⟩)))
      go_quiet (fail)
      go_wp2_with (first | (go_at_call 35; first | ((with_reducible refine (W16.out _).mono ?_); rintro e _ ⟨rfl, rfl⟩) | ((with_reducible refine (W4.out _ _).mono ?_); rintro e _ ⟨q4, hq4, rfl, rfl⟩)))
      refine bodyPost_ret (v := .agg #[.int .i64 0, .int .i64 0, .int .i64 24, .int .i64 ((q4 : Int)), .int .i64 (0)]) ((fun (W : World) (h : Cells5 W w.heap.size 0 0 (24) ((q4 : Int)) (0)) => (by obtain ⟨c0, c1, c2, c3, c4⟩ := h; simp [results, Tryd.results48, go_sem, c0, c1, c2, c3, c4] : (results _ _).run _ W = .ok _ W)) _ (by constructor <;> (go_simp; try exact IntWalk.i64_in _ (by omega)))) rfl (pickBack (po_in _ hq4) (by repeat (first | (with_reducible exact Below.refl _ _) | (with_reducible exact HB0.out) | (with_reducible refine Below.setCell ?_ (by first | omega | (simp; done) | (simp; omega)) _) | (with_reducible refine Below.drew ?_) | (with_reducible refine below_dN _ ?_) | (with_reducible refine Below.alloc ?_ (by first | omega | (simp; done) | (simp; omega)) _))))
  · have hl1 : st.length ≤ 1 := by
      rcases nil_or_app st with rfl | ⟨r, b, rfl⟩
      · simp
      · rcases nil_or_app r with rfl | ⟨r', c', rfl⟩
        · simp
        · exact absurd ⟨r', c', b, by simp⟩ h2
    have hl1' : ¬ (1 : Int) < st.length := by omega
    have hl2' : decide ((1 : Int) < st.length) = false := decide_eq_false hl1'
    clear h2 hs hsk
    go_enter Tryd.func48, Tryd.ntmps48
    go_wp2_with (first | (go_at_call 35; first | ((with_reducible refine (W16.out _).mono ?_); rintro e _ ⟨rfl, rfl⟩)))
    go_quiet (fail)
    go_wp2_with (first | (go_at_call 35; first | ((with_reducible refine (W16.out _).mono ?_); rintro e _ ⟨rfl, rfl⟩) | ((with_reducible refine (W4.out _ _).mono ?_); rintro e _ ⟨q4, hq4, rfl, rfl⟩)))
    refine bodyPost_ret (v := .agg #[.int .i64 0, .int .i64 0, .int .i64 24, .int .i64 ((q4 : Int)), .int .i64 (0)]) ((fun (W : World) (h : Cells5 W w.heap.size 0 0 (24) ((q4 : Int)) (0)) => (by obtain ⟨c0, c1, c2, c3, c4⟩ := h; simp [results, Tryd.results48, go_sem, c0, c1, c2, c3, c4] : (results _ _).run _ W = .ok _ W)) _ (by constructor <;> (go_simp; try exact IntWalk.i64_in _ (by omega)))) rfl (pickBack (po_in _ hq4) (by repeat (first | (with_reducible exact Below.refl _ _) | (with_reducible exact HB0.out) | (with_reducible refine Below.setCell ?_ (by first | omega | (simp; done) | (simp; omega)) _) | (with_reducible refine Below.drew ?_) | (with_reducible refine below_dN _ ?_) | (with_reducible refine Below.alloc ?_ (by first | omega | (simp; done) | (simp; omega)) _))))
end Go.Proofs.YtngobbbinacomaaDoor
