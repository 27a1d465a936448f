/- Chapter 13: Ton, and the document's Ton and Ctu, as what they make of six numbers. Printed by gen13b.py. -/
import Derived.Test.YtngobbbinacomaaDoorVD13
namespace Go.Proofs.YtngobbbinacomaaDoor.c13
open Go.Proofs.YtngobbbinacomaaDoor
open Go.RowKit
set_option linter.unusedVariables false

/-- How long a timer has been on; the cells behind a run. -/
def tonD (c4 c5 now : Int) : Int := if c5 = 0 then 0 else if wrap64 (now - c4) < 0 then 0 else wrap64 (now - c4)
def tonM (c1 d : Int) : Int := if c1 < d then (if c1 < 0 then 0 else c1) else (if d < 0 then 0 else d)
def tonQ (c0 c1 c4 c5 now : Int) : Int := if c0 = 0 then 0 else bit (decide (c1 ≤ tonD c4 c5 now))
def tonE (c0 c1 c4 c5 now : Int) : Int := if c0 = 0 then 0 else tonM c1 (tonD c4 c5 now)
def tonT (c0 c4 c5 now : Int) : Int := if c0 = 0 then c4 else if c5 = 0 then now else c4
def tonR (c0 c5 : Int) : Int := if c0 = 0 then 0 else if c5 = 0 then 1 else c5

theorem trun_any (b : Nat) (c0 c1 c2 c3 c4 c5 now : Int) (w : World) (h : Six w b c0 c1 c2 c3 c4 c5) :
    Calls Tryd.prog 115 #[.pointer (some ⟨b, 0, none⟩), .int .i64 now] w fun e w' => e = .returned (.tuple #[]) ∧
      Six w' b c0 c1 (tonQ c0 c1 c4 c5 now) (tonE c0 c1 c4 c5 now) (tonT c0 c4 c5 now) (tonR c0 c5) ∧ w.grownBy w' (some b) := by
  by_cases h0 : c0 = 0
  · subst h0
    have e := trun_off b c1 c2 c3 c4 c5 now w h
    simpa [tonQ, tonE, tonT, tonR] using e
  · have h0' : (c0 == 0) = false := by simpa using h0
    by_cases h5 : c5 = 0
    · subst h5
      have e1 : tonQ c0 c1 c4 0 now = bit (decide (c1 ≤ 0)) := by simp [tonQ, tonD, h0]
      have e2 : tonE c0 c1 c4 0 now = 0 := by
        by_cases hc : c1 < 0 <;> simp [tonE, tonD, tonM, h0, hc]
      have e3 : tonT c0 c4 0 now = now := by simp [tonT, h0]
      have e4 : tonR c0 0 = 1 := by simp [tonR, h0]
      rw [e1, e2, e3, e4]
      by_cases hc : c1 < 0
      · exact trun_fresh_neg b c0 c1 c2 c3 c4 now w h h0' hc
      · exact trun_fresh_pos b c0 c1 c2 c3 c4 now w h h0' hc
    · have h5' : (c5 == 0) = false := by simpa using h5
      have e3 : tonT c0 c4 c5 now = c4 := by simp [tonT, h0, h5]
      have e4 : tonR c0 c5 = c5 := by simp [tonR, h0, h5]
      rw [e3, e4]
      by_cases hd : wrap64 (now - c4) < 0
      · have e1 : tonQ c0 c1 c4 c5 now = bit (decide (c1 ≤ 0)) := by simp [tonQ, tonD, h0, h5, hd]
        have e2 : tonE c0 c1 c4 c5 now = 0 := by
          by_cases hc : c1 < 0 <;> simp [tonE, tonD, tonM, h0, h5, hd, hc]
        rw [e1, e2]
        by_cases hc : c1 < 0
        · exact trun_back_neg b c0 c1 c2 c3 c4 c5 now w h h0' h5' hd hc
        · exact trun_back_pos b c0 c1 c2 c3 c4 c5 now w h h0' h5' hd hc
      · have e1 : tonQ c0 c1 c4 c5 now = bit (decide (c1 ≤ wrap64 (now - c4))) := by simp [tonQ, tonD, h0, h5, hd]
        rw [e1]
        by_cases hc : c1 < wrap64 (now - c4)
        · by_cases hn : c1 < 0
          · have e2 : tonE c0 c1 c4 c5 now = 0 := by simp [tonE, tonD, tonM, h0, h5, hd, hc, hn]
            rw [e2]
            exact trun_more_neg b c0 c1 c2 c3 c4 c5 now w h h0' h5' hd hc hn
          · have e2 : tonE c0 c1 c4 c5 now = c1 := by simp [tonE, tonD, tonM, h0, h5, hd, hc, hn]
            rw [e2]
            exact trun_more_pos b c0 c1 c2 c3 c4 c5 now w h h0' h5' hd hc hn
        · have e2 : tonE c0 c1 c4 c5 now = wrap64 (now - c4) := by simp [tonE, tonD, tonM, h0, h5, hd, hc]
          rw [e2]
          exact trun_less b c0 c1 c2 c3 c4 c5 now w h h0' h5' hd hc

set_option maxHeartbeats 800000 in
theorem ton_any (c0 c1 c2 c3 c4 c5 now : Int) (w : World) :
    Calls Tryd.prog 104 #[.agg #[.int .i64 c0, .int .i64 c1, .int .i64 c2, .int .i64 c3, .int .i64 c4, .int .i64 c5], .int .i64 now] w fun e w' =>
      e = .returned (.agg #[.int .i64 c0, .int .i64 c1, .int .i64 (tonQ c0 c1 c4 c5 now), .int .i64 (tonE c0 c1 c4 c5 now), .int .i64 (tonT c0 c4 c5 now), .int .i64 (tonR c0 c5)]) ∧ Below w.heap.size w w' := by
  go_enter Tryd.func104, Tryd.ntmps104
  go_wp2_with fail
  refine (trun_any (w.heap.size + 1 + 1) c0 c1 c2 c3 c4 c5 now _ ?_).mono ?_
  · constructor <;> go_simp
  rintro e w1 ⟨rfl, hs, hg⟩
  obtain ⟨k0, k1, k2, k3, k4, k5, f0, f1, f2, f3, f4, f5⟩ := hs
  obtain ⟨r0, r1, r2, r3, r4, r5, g0, g1, g2, g3, g4, g5⟩ : Six w1 (w.heap.size + 1) 0 0 0 0 0 0 := Six.other hg (by simp) (by simp) (by constructor <;> go_simp)
  have hb := (((((Below.refl w.heap.size w).alloc (Nat.le_refl _) _).alloc (by simp) _).alloc (by simp; omega) _).grown hg (by simp; omega) (by simp; omega))
  clear hg
  have hb := Lib.hid hb
  go_wp2
  refine bodyPost_ret (v := .agg #[.int .i64 c0, .int .i64 c1, .int .i64 (tonQ c0 c1 c4 c5 now), .int .i64 (tonE c0 c1 c4 c5 now), .int .i64 (tonT c0 c4 c5 now), .int .i64 (tonR c0 c5)]) (by simp [results, Tryd.results104, go_sem, r0, r1, r2, r3, r4, r5]) rfl ⟨rfl, ?_⟩
  exact Below.setCell (Below.setCell (Below.setCell (Below.setCell (Below.setCell (Below.setCell hb.out (by simp) _) (by simp) _) (by simp) _) (by simp) _) (by simp) _) (by simp) _

set_option maxHeartbeats 400000 in
theorem rton_off (c1 c2 c3 c4 c5 now : Int) (w : World) :
    Calls Tryd.prog 31 #[.agg #[.int .i64 0, .int .i64 c1, .int .i64 c2, .int .i64 c3, .int .i64 c4, .int .i64 c5], .int .i64 now] w fun e w' => e = .returned (.agg #[.int .i64 0, .int .i64 c1, .int .i64 0, .int .i64 0, .int .i64 c4, .int .i64 0]) ∧ Below w.heap.size w w' := by
  go_enter Tryd.func31, Tryd.ntmps31
  go_wp2
  refine bodyPost_ret (v := .agg #[.int .i64 0, .int .i64 c1, .int .i64 0, .int .i64 0, .int .i64 c4, .int .i64 0]) (by simp [results, Tryd.results31, go_sem]) rfl ⟨rfl, (by repeat (first | exact Below.refl _ _ | refine Below.alloc ?_ (by simp; done) _ | refine Below.alloc ?_ (by simp; omega) _))⟩

set_option maxHeartbeats 400000 in
theorem rton_fresh_neg (c0 c1 c2 c3 c4 now : Int) (w : World) (h0 : (c0 == 0) = false) (h1 : c1 < 0) :
    Calls Tryd.prog 31 #[.agg #[.int .i64 c0, .int .i64 c1, .int .i64 c2, .int .i64 c3, .int .i64 c4, .int .i64 0], .int .i64 now] w fun e w' => e = .returned (.agg #[.int .i64 c0, .int .i64 c1, .int .i64 1, .int .i64 0, .int .i64 now, .int .i64 1]) ∧ Below w.heap.size w w' := by
  go_enter Tryd.func31, Tryd.ntmps31
  go_wp2
  refine bodyPost_ret (v := .agg #[.int .i64 c0, .int .i64 c1, .int .i64 1, .int .i64 0, .int .i64 now, .int .i64 1]) (by simp [results, Tryd.results31, go_sem]) rfl ⟨rfl, (by repeat (first | exact Below.refl _ _ | refine Below.alloc ?_ (by simp; done) _ | refine Below.alloc ?_ (by simp; omega) _))⟩

set_option maxHeartbeats 400000 in
theorem rton_back_neg (c0 c1 c2 c3 c4 c5 now : Int) (w : World) (h0 : (c0 == 0) = false) (h5 : (c5 == 0) = false) (hd : wrap64 (now - c4) < 0) (h1 : c1 < 0) :
    Calls Tryd.prog 31 #[.agg #[.int .i64 c0, .int .i64 c1, .int .i64 c2, .int .i64 c3, .int .i64 c4, .int .i64 c5], .int .i64 now] w fun e w' => e = .returned (.agg #[.int .i64 c0, .int .i64 c1, .int .i64 1, .int .i64 0, .int .i64 c4, .int .i64 c5]) ∧ Below w.heap.size w w' := by
  go_enter Tryd.func31, Tryd.ntmps31
  go_wp2
  refine bodyPost_ret (v := .agg #[.int .i64 c0, .int .i64 c1, .int .i64 1, .int .i64 0, .int .i64 c4, .int .i64 c5]) (by simp [results, Tryd.results31, go_sem]) rfl ⟨rfl, (by repeat (first | exact Below.refl _ _ | refine Below.alloc ?_ (by simp; done) _ | refine Below.alloc ?_ (by simp; omega) _))⟩

set_option maxHeartbeats 400000 in
theorem rton_fresh_nil (c0 c1 c2 c3 c4 now : Int) (w : World) (h0 : (c0 == 0) = false) (h1 : ¬ c1 < 0) (h2 : c1 ≤ 0) :
    Calls Tryd.prog 31 #[.agg #[.int .i64 c0, .int .i64 c1, .int .i64 c2, .int .i64 c3, .int .i64 c4, .int .i64 0], .int .i64 now] w fun e w' => e = .returned (.agg #[.int .i64 c0, .int .i64 c1, .int .i64 1, .int .i64 0, .int .i64 now, .int .i64 1]) ∧ Below w.heap.size w w' := by
  go_enter Tryd.func31, Tryd.ntmps31
  go_wp2
  refine bodyPost_ret (v := .agg #[.int .i64 c0, .int .i64 c1, .int .i64 1, .int .i64 0, .int .i64 now, .int .i64 1]) (by simp [results, Tryd.results31, go_sem]) rfl ⟨rfl, (by repeat (first | exact Below.refl _ _ | refine Below.alloc ?_ (by simp; done) _ | refine Below.alloc ?_ (by simp; omega) _))⟩

set_option maxHeartbeats 400000 in
theorem rton_back_nil (c0 c1 c2 c3 c4 c5 now : Int) (w : World) (h0 : (c0 == 0) = false) (h5 : (c5 == 0) = false) (hd : wrap64 (now - c4) < 0) (h1 : ¬ c1 < 0) (h2 : c1 ≤ 0) :
    Calls Tryd.prog 31 #[.agg #[.int .i64 c0, .int .i64 c1, .int .i64 c2, .int .i64 c3, .int .i64 c4, .int .i64 c5], .int .i64 now] w fun e w' => e = .returned (.agg #[.int .i64 c0, .int .i64 c1, .int .i64 1, .int .i64 0, .int .i64 c4, .int .i64 c5]) ∧ Below w.heap.size w w' := by
  go_enter Tryd.func31, Tryd.ntmps31
  go_wp2
  refine bodyPost_ret (v := .agg #[.int .i64 c0, .int .i64 c1, .int .i64 1, .int .i64 0, .int .i64 c4, .int .i64 c5]) (by simp [results, Tryd.results31, go_sem]) rfl ⟨rfl, (by repeat (first | exact Below.refl _ _ | refine Below.alloc ?_ (by simp; done) _ | refine Below.alloc ?_ (by simp; omega) _))⟩

set_option maxHeartbeats 400000 in
theorem rton_fresh_pos (c0 c1 c2 c3 c4 now : Int) (w : World) (h0 : (c0 == 0) = false) (h1 : ¬ c1 < 0) (h2 : ¬ c1 ≤ 0) :
    Calls Tryd.prog 31 #[.agg #[.int .i64 c0, .int .i64 c1, .int .i64 c2, .int .i64 c3, .int .i64 c4, .int .i64 0], .int .i64 now] w fun e w' => e = .returned (.agg #[.int .i64 c0, .int .i64 c1, .int .i64 0, .int .i64 0, .int .i64 now, .int .i64 1]) ∧ Below w.heap.size w w' := by
  go_enter Tryd.func31, Tryd.ntmps31
  go_wp2
  refine bodyPost_ret (v := .agg #[.int .i64 c0, .int .i64 c1, .int .i64 0, .int .i64 0, .int .i64 now, .int .i64 1]) (by simp [results, Tryd.results31, go_sem]) rfl ⟨rfl, (by repeat (first | exact Below.refl _ _ | refine Below.alloc ?_ (by simp; done) _ | refine Below.alloc ?_ (by simp; omega) _))⟩

set_option maxHeartbeats 400000 in
theorem rton_back_pos (c0 c1 c2 c3 c4 c5 now : Int) (w : World) (h0 : (c0 == 0) = false) (h5 : (c5 == 0) = false) (hd : wrap64 (now - c4) < 0) (h1 : ¬ c1 < 0) (h2 : ¬ c1 ≤ 0) :
    Calls Tryd.prog 31 #[.agg #[.int .i64 c0, .int .i64 c1, .int .i64 c2, .int .i64 c3, .int .i64 c4, .int .i64 c5], .int .i64 now] w fun e w' => e = .returned (.agg #[.int .i64 c0, .int .i64 c1, .int .i64 0, .int .i64 0, .int .i64 c4, .int .i64 c5]) ∧ Below w.heap.size w w' := by
  go_enter Tryd.func31, Tryd.ntmps31
  go_wp2
  refine bodyPost_ret (v := .agg #[.int .i64 c0, .int .i64 c1, .int .i64 0, .int .i64 0, .int .i64 c4, .int .i64 c5]) (by simp [results, Tryd.results31, go_sem]) rfl ⟨rfl, (by repeat (first | exact Below.refl _ _ | refine Below.alloc ?_ (by simp; done) _ | refine Below.alloc ?_ (by simp; omega) _))⟩

set_option maxHeartbeats 400000 in
theorem rton_on_is (c0 c1 c2 c3 c4 c5 now : Int) (w : World) (h0 : (c0 == 0) = false) (h5 : (c5 == 0) = false) (hd : ¬ wrap64 (now - c4) < 0) (h1 : ¬ c1 < wrap64 (now - c4)) (h2 : c1 ≤ wrap64 (now - c4)) :
    Calls Tryd.prog 31 #[.agg #[.int .i64 c0, .int .i64 c1, .int .i64 c2, .int .i64 c3, .int .i64 c4, .int .i64 c5], .int .i64 now] w fun e w' => e = .returned (.agg #[.int .i64 c0, .int .i64 c1, .int .i64 1, .int .i64 (wrap64 (now - c4)), .int .i64 c4, .int .i64 c5]) ∧ Below w.heap.size w w' := by
  go_enter Tryd.func31, Tryd.ntmps31
  go_wp2
  refine bodyPost_ret (v := .agg #[.int .i64 c0, .int .i64 c1, .int .i64 1, .int .i64 (wrap64 (now - c4)), .int .i64 c4, .int .i64 c5]) (by simp [results, Tryd.results31, go_sem]) rfl ⟨rfl, (by repeat (first | exact Below.refl _ _ | refine Below.alloc ?_ (by simp; done) _ | refine Below.alloc ?_ (by simp; omega) _))⟩

set_option maxHeartbeats 400000 in
theorem rton_on_less (c0 c1 c2 c3 c4 c5 now : Int) (w : World) (h0 : (c0 == 0) = false) (h5 : (c5 == 0) = false) (hd : ¬ wrap64 (now - c4) < 0) (h1 : ¬ c1 < wrap64 (now - c4)) (h2 : ¬ c1 ≤ wrap64 (now - c4)) :
    Calls Tryd.prog 31 #[.agg #[.int .i64 c0, .int .i64 c1, .int .i64 c2, .int .i64 c3, .int .i64 c4, .int .i64 c5], .int .i64 now] w fun e w' => e = .returned (.agg #[.int .i64 c0, .int .i64 c1, .int .i64 0, .int .i64 (wrap64 (now - c4)), .int .i64 c4, .int .i64 c5]) ∧ Below w.heap.size w w' := by
  go_enter Tryd.func31, Tryd.ntmps31
  go_wp2
  refine bodyPost_ret (v := .agg #[.int .i64 c0, .int .i64 c1, .int .i64 0, .int .i64 (wrap64 (now - c4)), .int .i64 c4, .int .i64 c5]) (by simp [results, Tryd.results31, go_sem]) rfl ⟨rfl, (by repeat (first | exact Below.refl _ _ | refine Below.alloc ?_ (by simp; done) _ | refine Below.alloc ?_ (by simp; omega) _))⟩

set_option maxHeartbeats 400000 in
theorem rton_on_more_neg (c0 c1 c2 c3 c4 c5 now : Int) (w : World) (h0 : (c0 == 0) = false) (h5 : (c5 == 0) = false) (hd : ¬ wrap64 (now - c4) < 0) (h1 : c1 < wrap64 (now - c4)) (hn : c1 < 0) :
    Calls Tryd.prog 31 #[.agg #[.int .i64 c0, .int .i64 c1, .int .i64 c2, .int .i64 c3, .int .i64 c4, .int .i64 c5], .int .i64 now] w fun e w' => e = .returned (.agg #[.int .i64 c0, .int .i64 c1, .int .i64 1, .int .i64 0, .int .i64 c4, .int .i64 c5]) ∧ Below w.heap.size w w' := by
  go_enter Tryd.func31, Tryd.ntmps31
  go_wp2
  refine bodyPost_ret (v := .agg #[.int .i64 c0, .int .i64 c1, .int .i64 1, .int .i64 0, .int .i64 c4, .int .i64 c5]) (by simp [results, Tryd.results31, go_sem]) rfl ⟨rfl, (by repeat (first | exact Below.refl _ _ | refine Below.alloc ?_ (by simp; done) _ | refine Below.alloc ?_ (by simp; omega) _))⟩

set_option maxHeartbeats 400000 in
theorem rton_on_more_pos (c0 c1 c2 c3 c4 c5 now : Int) (w : World) (h0 : (c0 == 0) = false) (h5 : (c5 == 0) = false) (hd : ¬ wrap64 (now - c4) < 0) (h1 : c1 < wrap64 (now - c4)) (hn : ¬ c1 < 0) :
    Calls Tryd.prog 31 #[.agg #[.int .i64 c0, .int .i64 c1, .int .i64 c2, .int .i64 c3, .int .i64 c4, .int .i64 c5], .int .i64 now] w fun e w' => e = .returned (.agg #[.int .i64 c0, .int .i64 c1, .int .i64 1, .int .i64 c1, .int .i64 c4, .int .i64 c5]) ∧ Below w.heap.size w w' := by
  go_enter Tryd.func31, Tryd.ntmps31
  go_wp2
  refine bodyPost_ret (v := .agg #[.int .i64 c0, .int .i64 c1, .int .i64 1, .int .i64 c1, .int .i64 c4, .int .i64 c5]) (by simp [results, Tryd.results31, go_sem]) rfl ⟨rfl, (by repeat (first | exact Below.refl _ _ | refine Below.alloc ?_ (by simp; done) _ | refine Below.alloc ?_ (by simp; omega) _))⟩

set_option maxHeartbeats 400000 in
theorem rctu_reset_1 (c0 c2 c3 c4 c5 : Int) (w : World) (hq : c2 ≤ 0) :
    Calls Tryd.prog 32 #[.agg #[.int .i64 c0, .int .i64 1, .int .i64 c2, .int .i64 c3, .int .i64 c4, .int .i64 c5]] w fun e w' => e = .returned (.agg #[.int .i64 c0, .int .i64 1, .int .i64 c2, .int .i64 1, .int .i64 0, .int .i64 c0]) ∧ Below w.heap.size w w' := by
  go_enter Tryd.func32, Tryd.ntmps32
  go_wp2
  refine bodyPost_ret (v := .agg #[.int .i64 c0, .int .i64 1, .int .i64 c2, .int .i64 1, .int .i64 0, .int .i64 c0]) (by simp [results, Tryd.results32, go_sem]) rfl ⟨rfl, (by repeat (first | exact Below.refl _ _ | refine Below.alloc ?_ (by simp; done) _ | refine Below.alloc ?_ (by simp; omega) _))⟩

set_option maxHeartbeats 400000 in
theorem rctu_count_1 (c1 c2 c3 c4 : Int) (w : World) (h1 : (c1 == 1) = false) (hl : -9223372036854775808 ≤ c4) (h4 : c4 < 2147483647) (hq : c2 ≤ c4 + 1) :
    Calls Tryd.prog 32 #[.agg #[.int .i64 1, .int .i64 c1, .int .i64 c2, .int .i64 c3, .int .i64 c4, .int .i64 0]] w fun e w' => e = .returned (.agg #[.int .i64 1, .int .i64 c1, .int .i64 c2, .int .i64 1, .int .i64 (c4 + 1), .int .i64 1]) ∧ Below w.heap.size w w' := by
  go_enter Tryd.func32, Tryd.ntmps32
  go_wp2
  refine bodyPost_ret (v := .agg #[.int .i64 1, .int .i64 c1, .int .i64 c2, .int .i64 1, .int .i64 (c4 + 1), .int .i64 1]) (by simp [results, Tryd.results32, go_sem]) rfl ⟨rfl, (by repeat (first | exact Below.refl _ _ | refine Below.alloc ?_ (by simp; done) _ | refine Below.alloc ?_ (by simp; omega) _))⟩

set_option maxHeartbeats 400000 in
theorem rctu_low_1 (c0 c1 c2 c3 c4 c5 : Int) (w : World) (h1 : (c1 == 1) = false) (h0 : (c0 == 1) = false) (hq : c2 ≤ c4) :
    Calls Tryd.prog 32 #[.agg #[.int .i64 c0, .int .i64 c1, .int .i64 c2, .int .i64 c3, .int .i64 c4, .int .i64 c5]] w fun e w' => e = .returned (.agg #[.int .i64 c0, .int .i64 c1, .int .i64 c2, .int .i64 1, .int .i64 c4, .int .i64 c0]) ∧ Below w.heap.size w w' := by
  go_enter Tryd.func32, Tryd.ntmps32
  go_wp2
  refine bodyPost_ret (v := .agg #[.int .i64 c0, .int .i64 c1, .int .i64 c2, .int .i64 1, .int .i64 c4, .int .i64 c0]) (by simp [results, Tryd.results32, go_sem]) rfl ⟨rfl, (by repeat (first | exact Below.refl _ _ | refine Below.alloc ?_ (by simp; done) _ | refine Below.alloc ?_ (by simp; omega) _))⟩

set_option maxHeartbeats 400000 in
theorem rctu_held_1 (c1 c2 c3 c4 c5 : Int) (w : World) (h1 : (c1 == 1) = false) (h5 : (c5 == 0) = false) (hq : c2 ≤ c4) :
    Calls Tryd.prog 32 #[.agg #[.int .i64 1, .int .i64 c1, .int .i64 c2, .int .i64 c3, .int .i64 c4, .int .i64 c5]] w fun e w' => e = .returned (.agg #[.int .i64 1, .int .i64 c1, .int .i64 c2, .int .i64 1, .int .i64 c4, .int .i64 1]) ∧ Below w.heap.size w w' := by
  go_enter Tryd.func32, Tryd.ntmps32
  go_wp2
  refine bodyPost_ret (v := .agg #[.int .i64 1, .int .i64 c1, .int .i64 c2, .int .i64 1, .int .i64 c4, .int .i64 1]) (by simp [results, Tryd.results32, go_sem]) rfl ⟨rfl, (by repeat (first | exact Below.refl _ _ | refine Below.alloc ?_ (by simp; done) _ | refine Below.alloc ?_ (by simp; omega) _))⟩

set_option maxHeartbeats 400000 in
theorem rctu_top_1 (c1 c2 c3 c4 : Int) (w : World) (h1 : (c1 == 1) = false) (h4 : ¬ c4 < 2147483647) (hq : c2 ≤ c4) :
    Calls Tryd.prog 32 #[.agg #[.int .i64 1, .int .i64 c1, .int .i64 c2, .int .i64 c3, .int .i64 c4, .int .i64 0]] w fun e w' => e = .returned (.agg #[.int .i64 1, .int .i64 c1, .int .i64 c2, .int .i64 1, .int .i64 c4, .int .i64 1]) ∧ Below w.heap.size w w' := by
  go_enter Tryd.func32, Tryd.ntmps32
  go_wp2
  refine bodyPost_ret (v := .agg #[.int .i64 1, .int .i64 c1, .int .i64 c2, .int .i64 1, .int .i64 c4, .int .i64 1]) (by simp [results, Tryd.results32, go_sem]) rfl ⟨rfl, (by repeat (first | exact Below.refl _ _ | refine Below.alloc ?_ (by simp; done) _ | refine Below.alloc ?_ (by simp; omega) _))⟩

set_option maxHeartbeats 400000 in
theorem rctu_reset_0 (c0 c2 c3 c4 c5 : Int) (w : World) (hq : ¬ c2 ≤ 0) :
    Calls Tryd.prog 32 #[.agg #[.int .i64 c0, .int .i64 1, .int .i64 c2, .int .i64 c3, .int .i64 c4, .int .i64 c5]] w fun e w' => e = .returned (.agg #[.int .i64 c0, .int .i64 1, .int .i64 c2, .int .i64 0, .int .i64 0, .int .i64 c0]) ∧ Below w.heap.size w w' := by
  go_enter Tryd.func32, Tryd.ntmps32
  go_wp2
  refine bodyPost_ret (v := .agg #[.int .i64 c0, .int .i64 1, .int .i64 c2, .int .i64 0, .int .i64 0, .int .i64 c0]) (by simp [results, Tryd.results32, go_sem]) rfl ⟨rfl, (by repeat (first | exact Below.refl _ _ | refine Below.alloc ?_ (by simp; done) _ | refine Below.alloc ?_ (by simp; omega) _))⟩

set_option maxHeartbeats 400000 in
theorem rctu_count_0 (c1 c2 c3 c4 : Int) (w : World) (h1 : (c1 == 1) = false) (hl : -9223372036854775808 ≤ c4) (h4 : c4 < 2147483647) (hq : ¬ c2 ≤ c4 + 1) :
    Calls Tryd.prog 32 #[.agg #[.int .i64 1, .int .i64 c1, .int .i64 c2, .int .i64 c3, .int .i64 c4, .int .i64 0]] w fun e w' => e = .returned (.agg #[.int .i64 1, .int .i64 c1, .int .i64 c2, .int .i64 0, .int .i64 (c4 + 1), .int .i64 1]) ∧ Below w.heap.size w w' := by
  go_enter Tryd.func32, Tryd.ntmps32
  go_wp2
  refine bodyPost_ret (v := .agg #[.int .i64 1, .int .i64 c1, .int .i64 c2, .int .i64 0, .int .i64 (c4 + 1), .int .i64 1]) (by simp [results, Tryd.results32, go_sem]) rfl ⟨rfl, (by repeat (first | exact Below.refl _ _ | refine Below.alloc ?_ (by simp; done) _ | refine Below.alloc ?_ (by simp; omega) _))⟩

set_option maxHeartbeats 400000 in
theorem rctu_low_0 (c0 c1 c2 c3 c4 c5 : Int) (w : World) (h1 : (c1 == 1) = false) (h0 : (c0 == 1) = false) (hq : ¬ c2 ≤ c4) :
    Calls Tryd.prog 32 #[.agg #[.int .i64 c0, .int .i64 c1, .int .i64 c2, .int .i64 c3, .int .i64 c4, .int .i64 c5]] w fun e w' => e = .returned (.agg #[.int .i64 c0, .int .i64 c1, .int .i64 c2, .int .i64 0, .int .i64 c4, .int .i64 c0]) ∧ Below w.heap.size w w' := by
  go_enter Tryd.func32, Tryd.ntmps32
  go_wp2
  refine bodyPost_ret (v := .agg #[.int .i64 c0, .int .i64 c1, .int .i64 c2, .int .i64 0, .int .i64 c4, .int .i64 c0]) (by simp [results, Tryd.results32, go_sem]) rfl ⟨rfl, (by repeat (first | exact Below.refl _ _ | refine Below.alloc ?_ (by simp; done) _ | refine Below.alloc ?_ (by simp; omega) _))⟩

set_option maxHeartbeats 400000 in
theorem rctu_held_0 (c1 c2 c3 c4 c5 : Int) (w : World) (h1 : (c1 == 1) = false) (h5 : (c5 == 0) = false) (hq : ¬ c2 ≤ c4) :
    Calls Tryd.prog 32 #[.agg #[.int .i64 1, .int .i64 c1, .int .i64 c2, .int .i64 c3, .int .i64 c4, .int .i64 c5]] w fun e w' => e = .returned (.agg #[.int .i64 1, .int .i64 c1, .int .i64 c2, .int .i64 0, .int .i64 c4, .int .i64 1]) ∧ Below w.heap.size w w' := by
  go_enter Tryd.func32, Tryd.ntmps32
  go_wp2
  refine bodyPost_ret (v := .agg #[.int .i64 1, .int .i64 c1, .int .i64 c2, .int .i64 0, .int .i64 c4, .int .i64 1]) (by simp [results, Tryd.results32, go_sem]) rfl ⟨rfl, (by repeat (first | exact Below.refl _ _ | refine Below.alloc ?_ (by simp; done) _ | refine Below.alloc ?_ (by simp; omega) _))⟩

set_option maxHeartbeats 400000 in
theorem rctu_top_0 (c1 c2 c3 c4 : Int) (w : World) (h1 : (c1 == 1) = false) (h4 : ¬ c4 < 2147483647) (hq : ¬ c2 ≤ c4) :
    Calls Tryd.prog 32 #[.agg #[.int .i64 1, .int .i64 c1, .int .i64 c2, .int .i64 c3, .int .i64 c4, .int .i64 0]] w fun e w' => e = .returned (.agg #[.int .i64 1, .int .i64 c1, .int .i64 c2, .int .i64 0, .int .i64 c4, .int .i64 1]) ∧ Below w.heap.size w w' := by
  go_enter Tryd.func32, Tryd.ntmps32
  go_wp2
  refine bodyPost_ret (v := .agg #[.int .i64 1, .int .i64 c1, .int .i64 c2, .int .i64 0, .int .i64 c4, .int .i64 1]) (by simp [results, Tryd.results32, go_sem]) rfl ⟨rfl, (by repeat (first | exact Below.refl _ _ | refine Below.alloc ?_ (by simp; done) _ | refine Below.alloc ?_ (by simp; omega) _))⟩

/-- The document's Ton makes the same. -/
theorem rton_any (c0 c1 c2 c3 c4 c5 now : Int) (w : World) :
    Calls Tryd.prog 31 #[.agg #[.int .i64 c0, .int .i64 c1, .int .i64 c2, .int .i64 c3, .int .i64 c4, .int .i64 c5], .int .i64 now] w fun e w' =>
      e = .returned (.agg #[.int .i64 c0, .int .i64 c1, .int .i64 (tonQ c0 c1 c4 c5 now), .int .i64 (tonE c0 c1 c4 c5 now), .int .i64 (tonT c0 c4 c5 now), .int .i64 (tonR c0 c5)]) ∧ Below w.heap.size w w' := by
  by_cases h0 : c0 = 0
  · subst h0
    have e := rton_off c1 c2 c3 c4 c5 now w
    simpa [tonQ, tonE, tonT, tonR] using e
  · have h0' : (c0 == 0) = false := by simpa using h0
    by_cases h5 : c5 = 0
    · subst h5
      have e2 : tonE c0 c1 c4 0 now = 0 := by
        by_cases hc : c1 < 0 <;> simp [tonE, tonD, tonM, h0, hc]
      have e3 : tonT c0 c4 0 now = now := by simp [tonT, h0]
      have e4 : tonR c0 0 = 1 := by simp [tonR, h0]
      rw [e2, e3, e4]
      by_cases hc : c1 < 0
      · have e1 : tonQ c0 c1 c4 0 now = 1 := by simp [tonQ, tonD, h0, bit]; omega
        rw [e1]
        exact rton_fresh_neg c0 c1 c2 c3 c4 now w h0' hc
      · by_cases hc' : c1 ≤ 0
        · have e1 : tonQ c0 c1 c4 0 now = 1 := by simp [tonQ, tonD, h0, bit, hc']
          rw [e1]
          exact rton_fresh_nil c0 c1 c2 c3 c4 now w h0' hc hc'
        · have e1 : tonQ c0 c1 c4 0 now = 0 := by simp [tonQ, tonD, h0, bit, hc']
          rw [e1]
          exact rton_fresh_pos c0 c1 c2 c3 c4 now w h0' hc hc'
    · have h5' : (c5 == 0) = false := by simpa using h5
      have e3 : tonT c0 c4 c5 now = c4 := by simp [tonT, h0, h5]
      have e4 : tonR c0 c5 = c5 := by simp [tonR, h0, h5]
      rw [e3, e4]
      by_cases hd : wrap64 (now - c4) < 0
      · have e2 : tonE c0 c1 c4 c5 now = 0 := by
          by_cases hc : c1 < 0 <;> simp [tonE, tonD, tonM, h0, h5, hd, hc]
        rw [e2]
        by_cases hc : c1 < 0
        · have e1 : tonQ c0 c1 c4 c5 now = 1 := by simp [tonQ, tonD, h0, h5, hd, bit]; omega
          rw [e1]
          exact rton_back_neg c0 c1 c2 c3 c4 c5 now w h0' h5' hd hc
        · by_cases hc' : c1 ≤ 0
          · have e1 : tonQ c0 c1 c4 c5 now = 1 := by simp [tonQ, tonD, h0, h5, hd, bit, hc']
            rw [e1]
            exact rton_back_nil c0 c1 c2 c3 c4 c5 now w h0' h5' hd hc hc'
          · have e1 : tonQ c0 c1 c4 c5 now = 0 := by simp [tonQ, tonD, h0, h5, hd, bit, hc']
            rw [e1]
            exact rton_back_pos c0 c1 c2 c3 c4 c5 now w h0' h5' hd hc hc'
      · by_cases hc : c1 < wrap64 (now - c4)
        · have e1 : tonQ c0 c1 c4 c5 now = 1 := by simp [tonQ, tonD, h0, h5, hd, bit]; omega
          rw [e1]
          by_cases hn : c1 < 0
          · have e2 : tonE c0 c1 c4 c5 now = 0 := by simp [tonE, tonD, tonM, h0, h5, hd, hc, hn]
            rw [e2]
            exact rton_on_more_neg c0 c1 c2 c3 c4 c5 now w h0' h5' hd hc hn
          · have e2 : tonE c0 c1 c4 c5 now = c1 := by simp [tonE, tonD, tonM, h0, h5, hd, hc, hn]
            rw [e2]
            exact rton_on_more_pos c0 c1 c2 c3 c4 c5 now w h0' h5' hd hc hn
        · have e2 : tonE c0 c1 c4 c5 now = wrap64 (now - c4) := by simp [tonE, tonD, tonM, h0, h5, hd, hc]
          rw [e2]
          by_cases hc' : c1 ≤ wrap64 (now - c4)
          · have e1 : tonQ c0 c1 c4 c5 now = 1 := by simp [tonQ, tonD, h0, h5, hd, bit, hc']
            rw [e1]
            exact rton_on_is c0 c1 c2 c3 c4 c5 now w h0' h5' hd hc hc'
          · have e1 : tonQ c0 c1 c4 c5 now = 0 := by simp [tonQ, tonD, h0, h5, hd, bit, hc']
            rw [e1]
            exact rton_on_less c0 c1 c2 c3 c4 c5 now w h0' h5' hd hc hc'

/-- The document's Ctu makes the same. -/
theorem rctu_any (c0 c1 c2 c3 c4 c5 : Int) (w : World) (hl : -9223372036854775808 ≤ c4) :
    Calls Tryd.prog 32 #[.agg #[.int .i64 c0, .int .i64 c1, .int .i64 c2, .int .i64 c3, .int .i64 c4, .int .i64 c5]] w fun e w' =>
      e = .returned (.agg #[.int .i64 c0, .int .i64 c1, .int .i64 c2, .int .i64 (bit (decide (c2 ≤ ctuV c0 c1 c4 c5))), .int .i64 (ctuV c0 c1 c4 c5), .int .i64 c0]) ∧ Below w.heap.size w w' := by
  by_cases h1 : c1 = 1
  · subst h1
    have e : ctuV c0 1 c4 c5 = 0 := by simp [ctuV]
    rw [e]
    by_cases hq : c2 ≤ 0
    · rw [show bit (decide (c2 ≤ 0)) = 1 by simp [bit, hq]]
      exact rctu_reset_1 c0 c2 c3 c4 c5 w hq
    · rw [show bit (decide (c2 ≤ 0)) = 0 by simp [bit, hq]]
      exact rctu_reset_0 c0 c2 c3 c4 c5 w hq
  · have h1' : (c1 == 1) = false := by simpa using h1
    by_cases h0 : c0 = 1
    · subst h0
      by_cases h5 : c5 = 0
      · subst h5
        by_cases h4 : c4 < 2147483647
        · have e : ctuV 1 c1 c4 0 = c4 + 1 := by simp [ctuV, h1, h4]; exact IntWalk.i64_in _ (by omega)
          rw [e]
          by_cases hq : c2 ≤ c4 + 1
          · rw [show bit (decide (c2 ≤ c4 + 1)) = 1 by simp [bit, hq]]
            exact rctu_count_1 c1 c2 c3 c4 w h1' hl h4 hq
          · rw [show bit (decide (c2 ≤ c4 + 1)) = 0 by simp [bit, hq]]
            exact rctu_count_0 c1 c2 c3 c4 w h1' hl h4 hq
        · have e : ctuV 1 c1 c4 0 = c4 := by simp [ctuV, h1, h4]
          rw [e]
          by_cases hq : c2 ≤ c4
          · rw [show bit (decide (c2 ≤ c4)) = 1 by simp [bit, hq]]
            exact rctu_top_1 c1 c2 c3 c4 w h1' h4 hq
          · rw [show bit (decide (c2 ≤ c4)) = 0 by simp [bit, hq]]
            exact rctu_top_0 c1 c2 c3 c4 w h1' h4 hq
      · have e : ctuV 1 c1 c4 c5 = c4 := by simp [ctuV, h1, h5]
        have h5' : (c5 == 0) = false := by simpa using h5
        rw [e]
        by_cases hq : c2 ≤ c4
        · rw [show bit (decide (c2 ≤ c4)) = 1 by simp [bit, hq]]
          exact rctu_held_1 c1 c2 c3 c4 c5 w h1' h5' hq
        · rw [show bit (decide (c2 ≤ c4)) = 0 by simp [bit, hq]]
          exact rctu_held_0 c1 c2 c3 c4 c5 w h1' h5' hq
    · have e : ctuV c0 c1 c4 c5 = c4 := by simp [ctuV, h1, h0]
      have h0' : (c0 == 1) = false := by simpa using h0
      rw [e]
      by_cases hq : c2 ≤ c4
      · rw [show bit (decide (c2 ≤ c4)) = 1 by simp [bit, hq]]
        exact rctu_low_1 c0 c1 c2 c3 c4 c5 w h1' h0' hq
      · rw [show bit (decide (c2 ≤ c4)) = 0 by simp [bit, hq]]
        exact rctu_low_0 c0 c1 c2 c3 c4 c5 w h1' h0' hq
end Go.Proofs.YtngobbbinacomaaDoor.c13
