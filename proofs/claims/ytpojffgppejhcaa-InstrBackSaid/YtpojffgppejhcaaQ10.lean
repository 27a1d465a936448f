/- Chapter 10: InstrReads. -/
import Derived.Test.YtpojffgppejhcaaP10
import Derived.Test.YtpojffgppejhcaaL10
namespace Go.Proofs.Ytpojffgppejhcaa
open Go.RowKit
set_option linter.unusedVariables false
set_option linter.unusedSimpArgs false

theorem RowAt.below {B : Option Addr} {lo : Nat} {L : List (Int × Int × Int × Int × Int)} {u v : World} (h : RowAt B lo L u) (hb : Below u.heap.size u v) : RowAt B lo L v := fun h0 => by
  obtain ⟨b, h1, h2, h3, h4⟩ := h h0
  exact ⟨b, h1, h2, by have := hb.size; omega, fun j x hj => (bcell hb h3 j).trans (h4 j x hj)⟩

theorem runL_length (z : Nat → Int) (len : Nat) : ∀ (f k : Nat) (L : List (Int × Int × Int × Int × Int)), L.length ≤ k → k ≤ len → (runL z len f k L).1.length ≤ len := by
  intro f
  induction f with
  | zero => intro k L h1 h2; simp only [runL]; omega
  | succ f ih =>
    intro k L h1 h2
    simp only [runL]
    by_cases h : (k : Int) < len
    · rw [if_pos h]
      by_cases he : (rd z len k).2 = 0
      · rw [if_pos he]
        obtain ⟨k', hk, h3, h4⟩ := rd_ok (z := z) (len := len) (k := k) (by omega) he
        rw [hk]
        exact ih k' _ (by simp; omega) h4
      · rw [if_neg he]; simp
    · rw [if_neg h]
      simp only
      omega

set_option maxHeartbeats 16000000 in
theorem reads_core (A0 : Option Addr) (len0 cap0 : Nat) (z0 : Nat → Int) (p1 : Int) (w : World) (c0 : Came w A0 len0 cap0 fun j => .int .u8 (z0 j)) (w0 : ∀ j, j < len0 → 0 ≤ z0 j ∧ z0 j ≤ 255) (hl : len0 ≤ 200) :
    Calls Try.prog 3 #[.slice A0 len0 cap0, .int .i64 p1] w fun e w' => e = .returned (.bool true) ∧ Below w.heap.size w w' := by
  have C1 := Lib.hid (fun (u : World) (p : Int) (c : Came u A0 len0 cap0 fun j => .int .u8 (z0 j)) => read_any A0 len0 cap0 z0 p u c (by omega) (fun i hi => by have := w0 i hi; omega))
  have C2 := Lib.hid (fun (u : World) (p : Int) (c : Came u A0 len0 cap0 fun j => .int .u8 (z0 j)) => rread_any A0 len0 cap0 z0 p u c (by omega) (fun i hi => by have := w0 i hi; omega))
  have C3 := Lib.hid (fun (u : World) (c : Came u A0 len0 cap0 fun j => .int .u8 (z0 j)) => all_any A0 len0 cap0 z0 u c (by omega) (fun i hi => by have := w0 i hi; omega))
  have C4 := Lib.hid (fun (u : World) (c : Came u A0 len0 cap0 fun j => .int .u8 (z0 j)) => rall_any A0 len0 cap0 z0 u c (by omega) (fun i hi => by have := w0 i hi; omega))
  have HL := Lib.hid (show (runL z0 len0 (len0 + 1) 0 []).1.length ≤ len0 from runL_length z0 len0 (len0 + 1) 0 [] (Nat.zero_le _) (Nat.zero_le _))
  have HC := Lib.hid c0
  have hl' : (len0 : Int) ≤ 200 := by omega
  clear c0 w0
  go_enter Try.func3, Try.ntmps3
  go_wp2_with fail
  refine (known_any _).mono ?_
  rintro e u1 ⟨rfl, hb1⟩
  have HB1 := Lib.hid hb1
  clear hb1
  go_wp2_with fail
  go_loopw [5] (fun i wr => ∃ m : Nat, m ≤ len0 + 2 ∧ i = .int .i64 ((m : Int) - 1) ∧ Below w.heap.size w wr) (fun i _ => len0 + 3 - (intOf i + 1).toNat)
  case atStart => exact ⟨0, by omega, rfl, HB1.out⟩
  case round =>
    obtain ⟨m, hm, rfl, hb⟩ := hrel
    have HB := Lib.hid hb
    clear hb HB1
    by_cases hlt : m ≤ len0 + 1
    · have hlt' : (m : Int) - 1 ≤ len0 := by omega
      rcases hr : rd z0 len0 ((m : Int) - 1) with ⟨⟨a0, a1, a2, a3, a4⟩, er⟩
      go_wp2_with fail
      refine (C1.out _ ((m : Int) - 1) (HC.out.below (Nat.le_refl _) HB.out)).mono ?_
      rintro e u2 ⟨rfl, hb2⟩
      have HB2 := Lib.hid (HB.out.trans (hb2.mono HB.out.size))
      clear hb2
      simp only [hr, rdV, opT]
      go_wp2_with fail
      refine (C2.out _ ((m : Int) - 1) ((HC.out.below (Nat.le_refl _) HB2.out).below (Nat.le_refl _) ((Below.refl _ u2).alloc (Nat.le_refl _) _))).mono ?_
      rintro e u3 ⟨rfl, hb3⟩
      simp only [hr, rdV, opT]
      have hz3 : u2.heap.size < u3.heap.size := by have := hb3.size; simp at this; omega
      have hz2 := HB2.out.size
      have hz3' := hb3.size
      have p0 : u3.cell? ⟨u2.heap.size, 0, none⟩ = some (.int .i64 a0) := by rw [bcell hb3 (b := u2.heap.size) (by simp)]; go_simp
      have p1 : u3.cell? ⟨u2.heap.size, 1, none⟩ = some (.int .i64 a1) := by rw [bcell hb3 (b := u2.heap.size) (by simp)]; go_simp
      have p2 : u3.cell? ⟨u2.heap.size, 2, none⟩ = some (.int .i64 a2) := by rw [bcell hb3 (b := u2.heap.size) (by simp)]; go_simp
      have p3 : u3.cell? ⟨u2.heap.size, 3, none⟩ = some (.int .i64 a3) := by rw [bcell hb3 (b := u2.heap.size) (by simp)]; go_simp
      have p4 : u3.cell? ⟨u2.heap.size, 4, none⟩ = some (.int .i64 a4) := by rw [bcell hb3 (b := u2.heap.size) (by simp)]; go_simp
      have HB3 := Lib.hid ((HB2.out.alloc hz2 _).trans (hb3.mono (by simp; omega)))
      clear hb3 HB2 hr hz3'
      go_wp2
      go_region_held3 (fun w' => w'.cell? ⟨u2.heap.size, 0, none⟩ = some (.int .i64 a0) ∧ w'.cell? ⟨u2.heap.size, 1, none⟩ = some (.int .i64 a1) ∧ w'.cell? ⟨u2.heap.size, 2, none⟩ = some (.int .i64 a2) ∧ w'.cell? ⟨u2.heap.size, 3, none⟩ = some (.int .i64 a3) ∧ w'.cell? ⟨u2.heap.size, 4, none⟩ = some (.int .i64 a4) ∧ w'.cell? ⟨u3.heap.size, 0, none⟩ = some (.int .i64 a0) ∧ w'.cell? ⟨u3.heap.size, 1, none⟩ = some (.int .i64 a1) ∧ w'.cell? ⟨u3.heap.size, 2, none⟩ = some (.int .i64 a2) ∧ w'.cell? ⟨u3.heap.size, 3, none⟩ = some (.int .i64 a3) ∧ w'.cell? ⟨u3.heap.size, 4, none⟩ = some (.int .i64 a4)) (go_keep)
        (first | (go_at_call 12; refine (of_any a0 a1 a2 a3 a4 _).mono ?_; rintro e u4 ⟨rfl, hb4⟩; have q1 := bcell hb4 (b := u2.heap.size) (by simp; omega); have q2 := bcell hb4 (b := u3.heap.size) (by simp); have HB4 := Lib.hid ((HB3.out.alloc (by omega) _).drew.trans (hb4.mono (by simp; omega)))))
      go_wp2
      go_roundw
      case rel => exact ⟨m + 1, by omega, by go_num, HB4.out⟩
      case measure => simp [intOf]; omega
    · have hge : ¬ ((m : Int) - 1 ≤ len0) := by omega
      rcases hr : rd z0 len0 p1 with ⟨⟨a0, a1, a2, a3, a4⟩, er⟩
      go_wp2_with fail
      refine (C1.out _ p1 (HC.out.below (Nat.le_refl _) HB.out)).mono ?_
      rintro e u2 ⟨rfl, hb2⟩
      have HB2 := Lib.hid (HB.out.trans (hb2.mono HB.out.size))
      clear hb2
      simp only [hr, rdV, opT]
      go_wp2_with fail
      refine (C2.out _ p1 ((HC.out.below (Nat.le_refl _) HB2.out).below (Nat.le_refl _) ((Below.refl _ u2).alloc (Nat.le_refl _) _))).mono ?_
      rintro e u3 ⟨rfl, hb3⟩
      simp only [hr, rdV, opT]
      have hz3 : u2.heap.size < u3.heap.size := by have := hb3.size; simp at this; omega
      have hz2 := HB2.out.size
      have hz3' := hb3.size
      have p0 : u3.cell? ⟨u2.heap.size, 0, none⟩ = some (.int .i64 a0) := by rw [bcell hb3 (b := u2.heap.size) (by simp)]; go_simp
      have p1 : u3.cell? ⟨u2.heap.size, 1, none⟩ = some (.int .i64 a1) := by rw [bcell hb3 (b := u2.heap.size) (by simp)]; go_simp
      have p2 : u3.cell? ⟨u2.heap.size, 2, none⟩ = some (.int .i64 a2) := by rw [bcell hb3 (b := u2.heap.size) (by simp)]; go_simp
      have p3 : u3.cell? ⟨u2.heap.size, 3, none⟩ = some (.int .i64 a3) := by rw [bcell hb3 (b := u2.heap.size) (by simp)]; go_simp
      have p4 : u3.cell? ⟨u2.heap.size, 4, none⟩ = some (.int .i64 a4) := by rw [bcell hb3 (b := u2.heap.size) (by simp)]; go_simp
      have HB3 := Lib.hid ((HB2.out.alloc hz2 _).trans (hb3.mono (by simp; omega)))
      clear hb3 HB2 hr hz3'
      rcases hR : runL z0 len0 (len0 + 1) 0 [] with ⟨L, eR⟩
      rw [hR] at HL C3 C4
      clear hR
      go_wp2_with fail
      refine (C3.out _ ((HC.out.below (Nat.le_refl _) HB3.out).below (Nat.le_refl _) ((Below.refl _ u3).alloc (Nat.le_refl _) _))).mono ?_
      rintro e u5 ⟨⟨B1, n1, rfl, hr1⟩, hb5⟩
      have HR1 := Lib.hid hr1
      have F5 := Lib.hid hb5
      have hz5 := hb5.size
      have HB5 := Lib.hid ((HB3.out.alloc (by omega) _).trans (hb5.mono (by simp; omega)))
      clear hb5 hr1
      go_wp2_with fail
      refine (C4.out _ (HC.out.below (Nat.le_refl _) HB5.out)).mono ?_
      rintro e u6 ⟨⟨B2, n2, rfl, hr2⟩, hb6⟩
      have hz6 := hb6.size
      have HR2 := Lib.hid hr2
      have HR3 := Lib.hid (HR1.out.below hb6)
      have HB6 := Lib.hid (HB5.out.trans (hb6.mono HB5.out.size))
      have FF := Lib.hid (F5.out.trans (hb6.mono hz5))
      clear hb6 hr2 HR1
      have d2 : ∀ j, u6.cell? ⟨u2.heap.size, j, none⟩ = u3.cell? ⟨u2.heap.size, j, none⟩ := fun j => by
        rw [bcell FF.out (b := u2.heap.size) (by simp; omega)]
        exact World.cell?_alloc_past _ _ _ hz3
      have d0 : u6.cell? ⟨u3.heap.size, 0, none⟩ = some (.int .i64 a0) := by rw [bcell FF.out (b := u3.heap.size) (by simp)]; go_simp
      have d1 : u6.cell? ⟨u3.heap.size, 1, none⟩ = some (.int .i64 a1) := by rw [bcell FF.out (b := u3.heap.size) (by simp)]; go_simp
      have d3 : u6.cell? ⟨u3.heap.size, 2, none⟩ = some (.int .i64 a2) := by rw [bcell FF.out (b := u3.heap.size) (by simp)]; go_simp
      have d4 : u6.cell? ⟨u3.heap.size, 3, none⟩ = some (.int .i64 a3) := by rw [bcell FF.out (b := u3.heap.size) (by simp)]; go_simp
      have d5 : u6.cell? ⟨u3.heap.size, 4, none⟩ = some (.int .i64 a4) := by rw [bcell FF.out (b := u3.heap.size) (by simp)]; go_simp
      rw [← d2] at p0 p1 p2 p3 p4
      have s2 : u2.heap.size < u6.heap.size := by simp at hz5; omega
      have s3 : u3.heap.size < u6.heap.size := by simp at hz5; omega
      clear d2 FF F5 hz5 hz6 HB5 HB3 C1 C2 C3 C4 HC HB hm hlt
      go_wp2
      go_region_held3 (fun w' => w'.cell? ⟨u2.heap.size, 0, none⟩ = some (.int .i64 a0) ∧ w'.cell? ⟨u2.heap.size, 1, none⟩ = some (.int .i64 a1) ∧ w'.cell? ⟨u2.heap.size, 2, none⟩ = some (.int .i64 a2) ∧ w'.cell? ⟨u2.heap.size, 3, none⟩ = some (.int .i64 a3) ∧ w'.cell? ⟨u2.heap.size, 4, none⟩ = some (.int .i64 a4) ∧ w'.cell? ⟨u3.heap.size, 0, none⟩ = some (.int .i64 a0) ∧ w'.cell? ⟨u3.heap.size, 1, none⟩ = some (.int .i64 a1) ∧ w'.cell? ⟨u3.heap.size, 2, none⟩ = some (.int .i64 a2) ∧ w'.cell? ⟨u3.heap.size, 3, none⟩ = some (.int .i64 a3) ∧ w'.cell? ⟨u3.heap.size, 4, none⟩ = some (.int .i64 a4)) (go_keep)
        (first | (go_at_call 12; refine (of_any a0 a1 a2 a3 a4 _).mono ?_; rintro e u7 ⟨rfl, hb7⟩; have q1 := bcell hb7 (b := u2.heap.size) (by simp; omega); have q2 := bcell hb7 (b := u3.heap.size) (by simp; omega); have HR4 := Lib.hid (RowAt.below (u := u6.drew) HR3.out hb7); have HR5 := Lib.hid (RowAt.below (u := u6.drew) HR2.out hb7); have HB7 := Lib.hid (HB6.out.drew.trans (hb7.mono (by simp; omega))); have s7 := hb7.size) | (go_at_call 15; refine (same_any B1 B2 _ _ _ _ L _ HR4.out HR5.out (by have := HL.out; omega)).mono ?_; rintro e u8 ⟨rfl, hb8⟩; have q3 := bcell hb8 (b := u2.heap.size) (by simp at s7 ⊢; omega); have q4 := bcell hb8 (b := u3.heap.size) (by simp at s7 ⊢; omega); have HB8 := Lib.hid (HB7.out.trans (hb8.mono HB7.out.size))))
      go_wp2
      go_ret
      exact ⟨rfl, HB8.out⟩

theorem instrReads_walk (A0 : Option Addr) (len0 cap0 : Nat) (z0 : Nat → Int) (a1 : Int) (w : World) (c0 : Came w A0 len0 cap0 fun j => .int .u8 (z0 j)) (w0 : ∀ j, j < len0 → 0 ≤ z0 j ∧ z0 j ≤ 255) (w1 : I64 a1) :
    Calls Try.prog 3 #[.slice A0 len0 cap0, .int .i64 a1] w fun e w' => e = .returned (.bool true) ∧ Below w.heap.size w w' := by
  by_cases hl : len0 ≤ 200
  · exact reads_core A0 len0 cap0 z0 a1 w c0 w0 hl
  · have hl' : (200 : Int) < len0 := by omega
    have hmax : (len0 : Int) ≤ 9223372036854775807 := by have := c0.le; have := c0.max; omega
    clear c0 w0 w1 hl
    go_enter Try.func3, Try.ntmps3
    go_wp2_with fail
    refine (known_any _).mono ?_
    rintro e u1 ⟨rfl, hb1⟩
    have HB1 := Lib.hid hb1
    clear hb1
    go_wp2
    go_ret
    exact ⟨rfl, HB1.out⟩
end Go.Proofs.Ytpojffgppejhcaa
