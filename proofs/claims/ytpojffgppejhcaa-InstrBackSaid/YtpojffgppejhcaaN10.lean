/- Chapter 10: the document's Read. -/
import Derived.Test.YtpojffgppejhcaaH10
import Derived.Test.YtpojffgppejhcaaM10
import Derived.BigGuardPart
namespace Go.Proofs.Ytpojffgppejhcaa
open Go.RowKit
set_option linter.unusedVariables false
set_option linter.unusedSimpArgs false

set_option maxHeartbeats 4000000 in
theorem rbears_any (s : Int) (w : World) : Calls Try.prog 17 #[.int .i64 s] w fun e w' => e = .returned (.int .i64 (bearsN s)) ∧ w = w' := by
  go_enter Try.func17, Try.ntmps17
  go_wp2
  all_goals (go_ret; refine ⟨bret ?_, rfl⟩; unfold bearsN; first | (subst_vars; rfl) | (simp_all; done) | (simp_all; omega))

theorem rbears_is {s n : Int} (h : bearsN s = n) (w : World) : Calls Try.prog 17 #[.int .i64 s] w fun e w' => e = .returned (.int .i64 n) ∧ w = w' := h ▸ rbears_any s w

set_option maxHeartbeats 2000000 in
theorem rread_lo (S : Option Addr) (len cap : Nat) (p : Int) (w : World) (hp : p < 0) (hl : (len : Int) ≤ 4611686018427387904) :
    Calls Try.prog 11 #[.slice S len cap, .int .i64 p] w fun e w' => e = .returned (opT 0 0 0 0 0 12) ∧ Below w.heap.size w w' := by
  go_enter Try.func11, Try.ntmps11
  go_wp2
  refine bodyPost_ret (v := opT 0 0 0 0 0 12) ((fun (W : World) (h : Cells5 W w.heap.size 0 0 0 0 0) => (by obtain ⟨c0, c1, c2, c3, c4⟩ := h; simp [results, Try.results11, go_sem, opT, c0, c1, c2, c3, c4] : (results _ _).run _ W = .ok _ W)) _ ?_) rfl ⟨rfl, ?_⟩
  · constructor <;> go_simp
  repeat (first | (with_reducible exact Below.refl _ _) | (with_reducible refine below_drewN _ ?_) | (with_reducible refine Below.setCell ?_ (by first | omega | (simp; done) | (simp; omega)) _) | (with_reducible refine Below.alloc ?_ (by first | omega | (simp; done) | (simp; omega)) _))

set_option maxHeartbeats 2000000 in
theorem rread_hi (S : Option Addr) (len cap : Nat) (p : Int) (w : World) (hp : 0 ≤ p) (hp' : (len : Int) ≤ p) (hl : (len : Int) ≤ 4611686018427387904) :
    Calls Try.prog 11 #[.slice S len cap, .int .i64 p] w fun e w' => e = .returned (opT 0 0 0 0 0 12) ∧ Below w.heap.size w w' := by
  have h0 : ¬ p < 0 := by omega
  go_enter Try.func11, Try.ntmps11
  go_wp2
  refine bodyPost_ret (v := opT 0 0 0 0 0 12) ((fun (W : World) (h : Cells5 W w.heap.size 0 0 0 0 0) => (by obtain ⟨c0, c1, c2, c3, c4⟩ := h; simp [results, Try.results11, go_sem, opT, c0, c1, c2, c3, c4] : (results _ _).run _ W = .ok _ W)) _ ?_) rfl ⟨rfl, ?_⟩
  · constructor <;> go_simp
  repeat (first | (with_reducible exact Below.refl _ _) | (with_reducible refine below_drewN _ ?_) | (with_reducible refine Below.setCell ?_ (by first | omega | (simp; done) | (simp; omega)) _) | (with_reducible refine Below.alloc ?_ (by first | omega | (simp; done) | (simp; omega)) _))

set_option maxHeartbeats 8000000 in
theorem rread_bad (g off len cap p : Nat) (z : Nat → Int) (w : World) (hg : g < w.heap.size) (hp : p < len) (hl : (len : Int) ≤ 4611686018427387904) (hz : ∀ i, i < len → 0 ≤ z i ∧ z i < 256)
    (kv : ∀ i, i < len → w.cell? ⟨g, off + i, none⟩ = some (.int .u8 (z i))) (hs : 29 < z p) :
    Calls Try.prog 11 #[.slice (some ⟨g, off, none⟩) len cap, .int .i64 p] w fun e w' => e = .returned (opT 0 0 0 0 0 10) ∧ Below w.heap.size w w' := by
  have HZ := Lib.hid hz
  have KV := Lib.hid kv
  clear hz kv
  have hp0 : ¬ (p : Int) < 0 := by omega
  have hp1 : ¬ (len : Int) ≤ p := by omega
  have hpt : ((p : Int)).toNat = p := by omega
  have q0 := KV.out p hp
  have z0 := (HZ.out p hp).1
  have z1 := (HZ.out p hp).2

  go_enter Try.func11, Try.ntmps11
  go_wp2
  refine bodyPost_ret (v := opT 0 0 0 0 0 10) ((fun (W : World) (h : Cells5 W w.heap.size 0 0 0 0 0) => (by obtain ⟨c0, c1, c2, c3, c4⟩ := h; simp [results, Try.results11, go_sem, opT, c0, c1, c2, c3, c4] : (results _ _).run _ W = .ok _ W)) _ ?_) rfl ⟨rfl, ?_⟩
  · constructor <;> go_simp
  repeat (first | (with_reducible exact Below.refl _ _) | (with_reducible refine below_drewN _ ?_) | (with_reducible refine Below.setCell ?_ (by first | omega | (simp; done) | (simp; omega)) _) | (with_reducible refine Below.alloc ?_ (by first | omega | (simp; done) | (simp; omega)) _))

set_option maxHeartbeats 8000000 in
theorem rread_cut (g off len cap p : Nat) (z : Nat → Int) (w : World) (hg : g < w.heap.size) (hp : p < len) (hl : (len : Int) ≤ 4611686018427387904) (hz : ∀ i, i < len → 0 ≤ z i ∧ z i < 256)
    (kv : ∀ i, i < len → w.cell? ⟨g, off + i, none⟩ = some (.int .u8 (z i))) (hs : z p ≤ 29) (hc : (len : Int) - (p + 1) < bearsN (z p)) (hn : 0 ≤ bearsN (z p)) (hn9 : bearsN (z p) ≤ 9) :
    Calls Try.prog 11 #[.slice (some ⟨g, off, none⟩) len cap, .int .i64 p] w fun e w' => e = .returned (opT 0 0 0 0 0 8) ∧ Below w.heap.size w w' := by
  have HZ := Lib.hid hz
  have KV := Lib.hid kv
  clear hz kv
  have hp0 : ¬ (p : Int) < 0 := by omega
  have hp1 : ¬ (len : Int) ≤ p := by omega
  have hpt : ((p : Int)).toNat = p := by omega
  have q0 := KV.out p hp
  have z0 := (HZ.out p hp).1
  have z1 := (HZ.out p hp).2
  have hs1 : ¬ 29 < z p := by omega
  generalize hnb : bearsN (z p) = nb at *
  have HNB := Lib.hid hnb
  have hc' : (len : Int) - p - 1 < nb := by omega
  clear hnb hc
  go_enter Try.func11, Try.ntmps11
  go_wp2_with fail
  refine (rbears_is HNB.out _).mono ?_
  rintro e _ ⟨rfl, rfl⟩
  go_wp2
  refine bodyPost_ret (v := opT 0 0 0 0 0 8) ((fun (W : World) (h : Cells5 W w.heap.size 0 0 0 0 0) => (by obtain ⟨c0, c1, c2, c3, c4⟩ := h; simp [results, Try.results11, go_sem, opT, c0, c1, c2, c3, c4] : (results _ _).run _ W = .ok _ W)) _ ?_) rfl ⟨rfl, ?_⟩
  · constructor <;> go_simp
  repeat (first | (with_reducible exact Below.refl _ _) | (with_reducible refine below_drewN _ ?_) | (with_reducible refine Below.setCell ?_ (by first | omega | (simp; done) | (simp; omega)) _) | (with_reducible refine Below.alloc ?_ (by first | omega | (simp; done) | (simp; omega)) _))

set_option maxHeartbeats 8000000 in
theorem rread_bare (g off len cap p : Nat) (z : Nat → Int) (w : World) (hg : g < w.heap.size) (hp : p < len) (hl : (len : Int) ≤ 4611686018427387904) (hz : ∀ i, i < len → 0 ≤ z i ∧ z i < 256)
    (kv : ∀ i, i < len → w.cell? ⟨g, off + i, none⟩ = some (.int .u8 (z i))) (hs : z p ≤ 29) (hc : bearsN (z p) = 0) :
    Calls Try.prog 11 #[.slice (some ⟨g, off, none⟩) len cap, .int .i64 p] w fun e w' => e = .returned (opT p (p + 1) (z p) 0 0 0) ∧ Below w.heap.size w w' := by
  have HZ := Lib.hid hz
  have KV := Lib.hid kv
  clear hz kv
  have hp0 : ¬ (p : Int) < 0 := by omega
  have hp1 : ¬ (len : Int) ≤ p := by omega
  have hpt : ((p : Int)).toNat = p := by omega
  have q0 := KV.out p hp
  have z0 := (HZ.out p hp).1
  have z1 := (HZ.out p hp).2
  have hs1 : ¬ 29 < z p := by omega
  have HNB := Lib.hid hc
  have hd : ¬ (len : Int) - p - 1 < 0 := by omega
  clear hc
  go_enter Try.func11, Try.ntmps11
  go_wp2_with fail
  refine (rbears_is HNB.out _).mono ?_
  rintro e _ ⟨rfl, rfl⟩
  go_wp2
  refine bodyPost_ret (v := opT p (p + 1) (z p) 0 0 0) ((fun (W : World) (h : Cells5 W w.heap.size p (p + 1) (z p) 0 0) => (by obtain ⟨c0, c1, c2, c3, c4⟩ := h; simp [results, Try.results11, go_sem, opT, c0, c1, c2, c3, c4] : (results _ _).run _ W = .ok _ W)) _ ?_) rfl ⟨rfl, ?_⟩
  · constructor <;> go_simp
  repeat (first | (with_reducible exact Below.refl _ _) | (with_reducible refine below_drewN _ ?_) | (with_reducible refine Below.setCell ?_ (by first | omega | (simp; done) | (simp; omega)) _) | (with_reducible refine Below.alloc ?_ (by first | omega | (simp; done) | (simp; omega)) _))

set_option maxHeartbeats 8000000 in
theorem rread_one (g off len cap p : Nat) (z : Nat → Int) (w : World) (hg : g < w.heap.size) (hp : p < len) (hl : (len : Int) ≤ 4611686018427387904) (hz : ∀ i, i < len → 0 ≤ z i ∧ z i < 256)
    (kv : ∀ i, i < len → w.cell? ⟨g, off + i, none⟩ = some (.int .u8 (z i))) (hs : z p ≤ 29) (hq : p + 1 < len) (hc : bearsN (z p) = 1) :
    Calls Try.prog 11 #[.slice (some ⟨g, off, none⟩) len cap, .int .i64 p] w fun e w' => e = .returned (opT p (p + 2) (z p) (z (p + 1)) 0 0) ∧ Below w.heap.size w w' := by
  have HZ := Lib.hid hz
  have KV := Lib.hid kv
  clear hz kv
  have hp0 : ¬ (p : Int) < 0 := by omega
  have hp1 : ¬ (len : Int) ≤ p := by omega
  have hpt : ((p : Int)).toNat = p := by omega
  have q0 := KV.out p hp
  have z0 := (HZ.out p hp).1
  have z1 := (HZ.out p hp).2
  have hs1 : ¬ 29 < z p := by omega
  have HNB := Lib.hid hc
  have hd : ¬ (len : Int) - p - 1 < 1 := by omega
  have q1 := KV.out (p + 1) hq
  have y0 := (HZ.out (p + 1) hq).1
  have y1 := (HZ.out (p + 1) hq).2
  have hpt1 : ((p : Int) + 1).toNat = p + 1 := by omega
  have hp2 : (p : Int) + 1 < len := by omega
  clear hc
  go_enter Try.func11, Try.ntmps11
  go_wp2_with fail
  refine (rbears_is HNB.out _).mono ?_
  rintro e _ ⟨rfl, rfl⟩
  go_wp2
  refine bodyPost_ret (v := opT p (p + 1 + 1) (z p) (z (p + 1)) 0 0) ((fun (W : World) (h : Cells5 W w.heap.size p (p + 1 + 1) (z p) (z (p + 1)) 0) => (by obtain ⟨c0, c1, c2, c3, c4⟩ := h; simp [results, Try.results11, go_sem, opT, c0, c1, c2, c3, c4] : (results _ _).run _ W = .ok _ W)) _ ?_) rfl ⟨by rw [show (p : Int) + 1 + 1 = p + 2 by omega], ?_⟩
  · constructor <;> go_simp
  repeat (first | (with_reducible exact Below.refl _ _) | (with_reducible refine below_drewN _ ?_) | (with_reducible refine Below.setCell ?_ (by first | omega | (simp; done) | (simp; omega)) _) | (with_reducible refine Below.alloc ?_ (by first | omega | (simp; done) | (simp; omega)) _))

set_option maxHeartbeats 8000000 in
theorem rread_push (g off len cap p : Nat) (z : Nat → Int) (w : World) (hg : g < w.heap.size) (hp : p < len) (hl : (len : Int) ≤ 4611686018427387904) (hz : ∀ i, i < len → 0 ≤ z i ∧ z i < 256)
    (kv : ∀ i, i < len → w.cell? ⟨g, off + i, none⟩ = some (.int .u8 (z i))) (hs : z p = 1) (hq : p + 9 < len) :
    Calls Try.prog 11 #[.slice (some ⟨g, off, none⟩) len cap, .int .i64 p] w fun e w' => e = .returned (opT p (p + 10) 1 (z (p + 1)) (wrap64 (numK z (p + 2) 8)) 0) ∧ Below w.heap.size w w' := by
  have HZ := Lib.hid hz
  have KV := Lib.hid kv
  clear hz kv
  have hp0 : ¬ (p : Int) < 0 := by omega
  have hp1 : ¬ (len : Int) ≤ p := by omega
  have hpt : ((p : Int)).toNat = p := by omega
  have q0 := KV.out p hp
  have z0 := (HZ.out p hp).1
  have z1 := (HZ.out p hp).2
  have HNB := Lib.hid (show bearsN 1 = 9 from rfl)
  have hd : ¬ (len : Int) - p - 1 < 9 := by omega
  have q1 := KV.out (p + 1) (by omega)
  have y0 := (HZ.out (p + 1) (by omega)).1
  have y1 := (HZ.out (p + 1) (by omega)).2
  have hpt1 : ((p : Int) + 1).toNat = p + 1 := by omega
  have hp2 : (p : Int) + 1 < len := by omega
  go_enter Try.func11, Try.ntmps11
  go_wp2_with fail
  refine (rbears_is HNB.out _).mono ?_
  rintro e _ ⟨rfl, rfl⟩
  go_wp2_with fail
  clear q0 q1
  go_loop [8, 9] (fun u i => ∃ m : Nat, m ≤ 8 ∧ i = .int .i64 ((m : Int) - 1) ∧ u = .int .u64 (refK z (p + 2) (8 - m))) (fun _ i => (intOf i + 1).toNat)
  case atStart => exact ⟨8, by omega, rfl, rfl⟩
  case round =>
    obtain ⟨m, hm, rfl, rfl⟩ := hrel
    cases m with
    | zero =>
      have hlt : ¬ (0 : Int) ≤ ((0 : Nat) : Int) - 1 := by omega
      obtain ⟨nn, hnn⟩ : ∃ nn, wrap64 (numK z (p + 2) 8) = nn := ⟨_, rfl⟩
      have hk : wrap64 (refK z (p + 2) 8) = nn := by rw [refK_is z (p + 2) fun i hi => HZ.out _ (by omega)]; exact hnn
      have HNN := Lib.hid hnn
      clear hnn
      go_wp2
      refine bodyPost_ret (v := opT p (p + 1 + 9) 1 (z (p + 1)) nn 0) ((fun (W : World) (h : Cells5 W w.heap.size p (p + 1 + 9) 1 (z (p + 1)) nn) => (by obtain ⟨c0, c1, c2, c3, c4⟩ := h; simp [results, Try.results11, go_sem, opT, c0, c1, c2, c3, c4] : (results _ _).run _ W = .ok _ W)) _ ?_) rfl ⟨by rw [HNN.out, show (p : Int) + 1 + 9 = p + 10 by omega], ?_⟩
      · constructor <;> go_simp
      repeat (first | (with_reducible exact Below.refl _ _) | (with_reducible refine below_drewN _ ?_) | (with_reducible refine Below.setCell ?_ (by first | omega | (simp; done) | (simp; omega)) _) | (with_reducible refine Below.alloc ?_ (by first | omega | (simp; done) | (simp; omega)) _))

    | succ m =>
      have q := KV.out (p + 2 + m) (by omega)
      have y2 := (HZ.out (p + 2 + m) (by omega)).1
      have y3 := (HZ.out (p + 2 + m) (by omega)).2
      have hi : (((m + 1 : Nat) : Int) - 1) = m := by omega
      have hpt2 : ((p : Int) + 2 + m).toNat = p + 2 + m := by omega
      have hp3 : (p : Int) + 2 + m < len := by omega
      have hm' : (m : Int) ≤ 7 := by omega
      rw [hi]
      clear hi
      go_wp2
      go_round
      case rel =>
        refine ⟨m, by omega, rfl, ?_⟩
        have h1 : 8 - m = (8 - (m + 1)) + 1 := by omega
        have h2 : p + 2 + (7 - (8 - (m + 1))) = p + 2 + m := by omega
        rw [h1]
        simp only [refK]
        rw [h2, show 8 - (m + 1) = 7 - m by omega]
      case measure => simp [intOf]

theorem rread_any (A : Option Addr) (len cap : Nat) (z : Nat → Int) (p : Int) (w : World) (c : Came w A len cap fun j => .int .u8 (z j)) (hl : (len : Int) ≤ 4611686018427387904) (hz : ∀ i, i < len → 0 ≤ z i ∧ z i < 256) :
    Calls Try.prog 11 #[.slice A len cap, .int .i64 p] w fun e w' => e = .returned (rdV (rd z len p)) ∧ Below w.heap.size w w' := by
  by_cases h0 : p < 0
  · have : rd z len p = ((0, 0, 0, 0, 0), 12) := by simp [rd, h0]
    rw [this]
    exact rread_lo A len cap p w h0 hl
  by_cases h1 : (len : Int) ≤ p
  · have : rd z len p = ((0, 0, 0, 0, 0), 12) := by simp [rd, h1]
    rw [this]
    exact rread_hi A len cap p w (by omega) h1 hl
  obtain ⟨q, rfl⟩ : ∃ q : Nat, p = q := ⟨p.toNat, by omega⟩
  have hq : q < len := by omega
  obtain ⟨b, off, rfl, hb, kv⟩ := c.at_ (by omega)
  have ht : ((q : Int)).toNat = q := by omega
  have hn : ¬ ((q : Int) < 0 ∨ (len : Int) ≤ q) := by omega
  by_cases h2 : 29 < z q
  · have : rd z len q = ((0, 0, 0, 0, 0), 10) := by simp only [rd, ht, if_neg hn, if_pos h2]
    rw [this]
    exact rread_bad b off len cap q z w hb hq hl hz kv h2
  have h2' : z q ≤ 29 := by omega
  have hw := bearsN_ways (z q)
  by_cases h3 : (len : Int) - (q + 1) < bearsN (z q)
  · have : rd z len q = ((0, 0, 0, 0, 0), 8) := by simp only [rd, ht, if_neg hn, if_neg h2, if_pos h3]
    rw [this]
    exact rread_cut b off len cap q z w hb hq hl hz kv h2' h3 (by omega) (by omega)
  have hr : rd z len q = (((q : Int), q + 1 + bearsN (z q), z q, if 0 < bearsN (z q) then z (q + 1) else 0, if z q = 1 then wrap64 (numK z (q + 2) 8) else 0), 0) := by
    simp only [rd, ht, if_neg hn, if_neg h2, if_neg h3]
  rw [hr]
  rcases hw with ⟨h4, h5⟩ | ⟨h4, h5⟩ | ⟨h4, h5⟩
  · rw [h4, if_neg h5, if_neg (by omega)]
    have := rread_bare b off len cap q z w hb hq hl hz kv h2' h4
    simpa [rdV] using this
  · rw [h4, if_neg h5, if_pos (by omega)]
    have := rread_one b off len cap q z w hb hq hl hz kv h2' (by omega) h4
    rw [show (q : Int) + 2 = q + 1 + 1 by omega] at this
    simpa [rdV] using this
  · rw [h4, if_pos h5, if_pos (by omega), h5]
    have := rread_push b off len cap q z w hb hq hl hz kv h5 (by omega)
    rw [show (q : Int) + 10 = q + 1 + 9 by omega] at this
    simpa [rdV] using this
end Go.Proofs.Ytpojffgppejhcaa
