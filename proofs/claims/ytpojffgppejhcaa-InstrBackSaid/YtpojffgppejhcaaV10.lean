/- Chapter 10: Bytes, a number that is pushed. -/
import Derived.Test.YtpojffgppejhcaaS10
namespace Go.Proofs.Ytpojffgppejhcaa
open Go.RowKit
set_option linter.unusedVariables false
set_option linter.unusedSimpArgs false

/-- The first k bytes of a number. -/
def nb8 (N : Int) (k : Nat) : List Int := (List.range k).map (fun k => IntKind.u64.wrap N / 2 ^ (8 * k) % 256)
theorem nb8_succ (N : Int) (k : Nat) : nb8 N (k + 1) = nb8 N k ++ [IntKind.u64.wrap N / 2 ^ (8 * k) % 256] := by
  simp [nb8, List.range_succ]

set_option maxHeartbeats 8000000 in
theorem bytes_push (A : Option Addr) (n cap : Nat) (ys : List Int) (a0 a1 s a N : Int) (w : World) (hl : ys.length = n) (hn : n ≤ 50000)
    (hA : ∀ x, A = some x → x.block < w.heap.size ∧ ∀ j u, (u8s ys)[j]? = some u → w.cell? (x.add j) = some u) (h0 : A = none → n = 0) (hs : s = 1) :
    Calls Try.prog 19 #[.slice A n cap, .agg #[.int .i64 a0, .int .i64 a1, .int .i64 s, .int .i64 a, .int .i64 N]] w fun e w' =>
      (∃ v, e = .returned v ∧ w'.ownsRow w.heap.size 5 1 v (n + 10) (u8s (ys ++ [1 % 256, a % 256] ++ nb8 N 8))) ∧ Below w.heap.size w w' := by
  obtain ⟨i0, hi, hz0, hz1, hz2⟩ := info_parts byteInfo
  have t22 := byteRow
  have CC := Lib.hid (fun (W : World) (hW : Below w.heap.size w W) => bclone_any A n cap (u8s ys) W (by rw [u8s_length]; exact hl) (by omega) (u8s_one _) (fun x hx j u hj => by
    obtain ⟨h1, h2⟩ := hA x hx
    rw [hW.cell (by rw [add_block]; exact h1)]
    exact h2 j u hj) h0)
  have HL := Lib.hid hl
  clear hl hA h0
  subst hs
  have HNB := Lib.hid (show bearsN 1 = 9 from rfl)
  go_enter Try.func19, Try.ntmps19
  go_wp2_with fail
  generalize hBX : w.alloc (.cells #[.int .i64 a0, .int .i64 a1, .int .i64 1, .int .i64 a, .int .i64 N] 25) = wb at *
  have hsb : wb.heap.size = w.heap.size + 1 := by rw [← hBX]; simp
  have b2 : wb.cell? ⟨w.heap.size, 2, none⟩ = some (.int .i64 1) := by rw [← hBX]; clear hBX; go_simp
  have b3 : wb.cell? ⟨w.heap.size, 3, none⟩ = some (.int .i64 a) := by rw [← hBX]; clear hBX; go_simp
  have b4 : wb.cell? ⟨w.heap.size, 4, none⟩ = some (.int .i64 N) := by rw [← hBX]; clear hBX; go_simp
  have HWB := Lib.hid (show Below w.heap.size w wb by rw [← hBX]; exact (Below.refl _ _).alloc (Nat.le_refl _) _)
  clear hBX
  go_region_law (first
    | (refine step_append_own rfl _ _ 22 rfl (w.heap.size + 1) 5 i0 _ 1 1 t22 hi hz0 hz1 hz2 rfl (by decide) _ n (u8s ys) rfl (by first | exact HO.out | exact HO.out.alloc _) ⟨_, 0, none⟩ 1 1 (u8s [IntKind.u8.wrap 1]) rfl rfl (one_cell (by go_simp)) (u8s_one _) (by unfold maxLen; omega) (by omega) (by have hq := HB.out.size; first | omega | (simp; done) | (simp; omega)) ?_; intro v' w1 hown hgrow hnil; have HB1 := Lib.hid (grown_below (B := w.heap.size + 1) (by have hq := HB.out.size; first | exact HB.out | exact HB.out.alloc (by omega) _) (by first | exact HO.out | exact HO.out.alloc _) hgrow (Nat.le_refl _) (by have hq := HB.out.size; first | omega | (simp; done) | (simp; omega))); rw [u8_mod] at hown; have HO1 := Lib.hid hown; clear hown hgrow hnil)
    | (go_simp; go_at_call 24; (with_reducible refine (CC.out _ (by repeat (first | (with_reducible exact HWB.out) | (with_reducible refine Below.drew ?_) | (with_reducible refine Below.alloc ?_ (by first | omega | (simp; done) | (simp; omega)) _)))).mono ?_); rintro e u ⟨⟨v, rfl, hown⟩, hb⟩; have HO := Lib.hid (owns_mono (base' := w.heap.size + 1) hown (by first | omega | (simp; done) | (simp; omega))); have HB := Lib.hid (show Below (w.heap.size + 1) wb u from Below.trans (by repeat (first | (with_reducible exact Below.refl _ _) | (with_reducible refine Below.drew ?_) | (with_reducible refine Below.alloc ?_ (by first | omega | (simp; done) | (simp; omega)) _))) (hb.mono (by first | omega | (simp; done) | (simp; omega)))); have k2 : u.cell? ⟨w.heap.size, 2, none⟩ = some (.int .i64 1) := (by rw [bcell HB.out (by omega)]; exact b2); (try have kq := bcell hb (b := w.heap.size + 1) (by simp; omega) 0); clear hown hb))
  all_goals (
    have k2 : w1.cell? ⟨w.heap.size, 2, none⟩ = some (.int .i64 1) := by rw [bcell HB1.out (by omega)]; exact b2
    have k3 : w1.cell? ⟨w.heap.size, 3, none⟩ = some (.int .i64 a) := by rw [bcell HB1.out (by omega)]; exact b3
    have k4 : w1.cell? ⟨w.heap.size, 4, none⟩ = some (.int .i64 N) := by rw [bcell HB1.out (by omega)]; exact b4
    go_wp2_with fail
    refine (bears_is HNB.out _).mono ?_
    rintro e _ ⟨rfl, rfl⟩
    go_wp2_with (at_builtin; refine wpList_append_own _ rfl _ _ 22 rfl (w.heap.size + 1) 5 i0 _ 1 1 t22 hi hz0 hz1 hz2 rfl (by decide) _ (n + 1) (u8s ys ++ u8s [1 % 256]) rfl (HO1.out.alloc _) ⟨_, 0, none⟩ 1 1 (u8s [a % 256]) rfl rfl (one_cell (by go_simp)) (u8s_one _) (by unfold maxLen; omega) (by omega) (by have hq := HB1.out.size; first | omega | (simp; done) | (simp; omega)) ?_; intro v2 w2 hown hgrow hnil; have HB2 := Lib.hid (grown_below (B := w.heap.size + 1) (HB1.out.alloc (by have hq := HB1.out.size; omega) _) (HO1.out.alloc _) hgrow (Nat.le_refl _) (by have hq := HB1.out.size; first | omega | (simp; done) | (simp; omega))); have HO2 := Lib.hid hown; have m2 := (bcell HB2.out (b := w.heap.size) (by omega) 2).trans b2; have m3 := (bcell HB2.out (b := w.heap.size) (by omega) 3).trans b3; have m4 := (bcell HB2.out (b := w.heap.size) (by omega) 4).trans b4; clear hown hgrow hnil)
    go_wp2_with fail
    go_loopw [5, 27] (fun out i wr => ∃ k : Nat, k ≤ 8 ∧ i = .int .i64 k ∧ wr.ownsRow (w.heap.size + 1) 5 1 out (n + 2 + k) (u8s (ys ++ [1 % 256, a % 256] ++ nb8 N k)) ∧ Below (w.heap.size + 1) wb wr) (fun _ i _ => 8 - (intOf i).toNat)
    case atStart =>
      refine ⟨0, by omega, rfl, ?_, HB2.out⟩
      have := HO2.out
      simp only [u8s, nb8, List.map_append, List.append_assoc] at this ⊢
      simpa using this
    case round =>
      obtain ⟨k, hk, rfl, hown, hbw⟩ := hrel
      have HOW := Lib.hid hown
      have HBW := Lib.hid hbw
      clear hown hbw k2 k3 k4 m2 m3 m4
      have k4 : wr.cell? ⟨w.heap.size, 4, none⟩ = some (.int .i64 N) := by rw [bcell HBW.out (by omega)]; exact b4
      by_cases hlt : k < 8
      · have hk8 : wrap64 (8 * (k : Int)) = 8 * k := IntWalk.wrap64_in _ ⟨by omega, by omega⟩
        have hk9 : (8 * (k : Int)).toNat = 8 * k := by omega
        have hk0 : (0 : Int) ≤ 8 * k := by omega
        have hlt' : (k : Int) < 8 := by omega
        go_wp2_with (at_builtin; refine wpList_append_own _ rfl _ _ 22 rfl (w.heap.size + 1) 5 i0 _ 1 1 t22 hi hz0 hz1 hz2 rfl (by decide) _ (n + 2 + k) (u8s (ys ++ [1 % 256, a % 256] ++ nb8 N k)) rfl (HOW.out.alloc _) ⟨_, 0, none⟩ 1 1 (u8s [IntKind.u64.wrap N / 2 ^ (8 * k) % 256]) rfl rfl (one_cell (by go_simp)) (u8s_one _) (by unfold maxLen; omega) (by omega) (by have hq := HBW.out.size; first | omega | (simp; done) | (simp; omega)) ?_; intro v9 w9 hown hgrow hnil; have HB9 := Lib.hid (grown_below (B := w.heap.size + 1) (HBW.out.alloc (by have hq := HBW.out.size; omega) _) (HOW.out.alloc _) hgrow (Nat.le_refl _) (by have hq := HBW.out.size; first | omega | (simp; done) | (simp; omega))); have HO9 := Lib.hid hown; have m2 := (bcell HB9.out (b := w.heap.size) (by omega) 2).trans b2; have m3 := (bcell HB9.out (b := w.heap.size) (by omega) 3).trans b3; have m4 := (bcell HB9.out (b := w.heap.size) (by omega) 4).trans b4; clear hown hgrow hnil)
        go_wp2
        go_roundw
        case rel =>
          refine ⟨k + 1, by omega, by go_num, ?_, HB9.out⟩
          have := HO9.out
          rw [← u8s_app, List.append_assoc, ← nb8_succ] at this
          exact this
        case measure => simp [intOf]; omega
      · have : k = 8 := by omega
        subst this
        clear hlt
        have hge : ¬ ((8 : Nat) : Int) < 8 := by omega
        go_wp2_with fail
        refine (bclone_owned (ys := ys ++ [1 % 256, a % 256] ++ nb8 N 8) (by exact HOW.out) (by omega)).mono ?_
        rintro e u2 ⟨⟨vf, rfl, hown⟩, hb2⟩
        have HOF := Lib.hid (owns_mono (base' := w.heap.size) hown (by have := HBW.out.size; omega))
        have HBF := Lib.hid (HWB.out.trans ((HBW.out.mono (by omega)).trans (hb2.mono (by have := HBW.out.size; omega))))
        clear hown hb2
        go_wp2
        go_ret
        exact ⟨⟨_, rfl, HOF.out⟩, HBF.out⟩)
end Go.Proofs.Ytpojffgppejhcaa
