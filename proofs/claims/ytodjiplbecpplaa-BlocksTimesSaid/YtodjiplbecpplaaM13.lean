/- Chapter 13: the walk of BlocksTimes. -/
import Derived.Test.YtodjiplbecpplaaK13
namespace Go.Proofs.Ytodjiplbecpplaa
open Go.RowKit
set_option linter.unusedVariables false
attribute [local go_sem ↓] Go.wp_at_zero Go.wp_at_succ

/-- What the loop of BlocksTimes holds: the time, since when, whether it was on; the timer's cells tell the same. -/
def TimeRel (w : World) (g len : Nat) (pt : Int) (now since run i : Value) (wr : World) : Prop :=
  ∃ (k : Nat) (t s x0 x2 x3 x4 x5 : Int) (r : Bool), k ≤ len ∧ k ≤ 40 ∧ i = .int .i64 k ∧ now = .int .i64 t ∧ since = .int .i64 s ∧ run = .bool r ∧ 0 ≤ s ∧ s ≤ t ∧ t ≤ 5 + 30 * k ∧
    (x5 = 0 ∨ x5 = 1) ∧ (r = true → x5 = 1 ∧ x4 = s) ∧ (r = false → x5 = 0) ∧
    Six wr g x0 pt x2 x3 x4 x5 ∧ Below w.heap.size w wr ∧ g < wr.heap.size

/-- A timer that is off. -/
theorem times_off (pt x2 x3 x4 x5 t : Int) (u : World) :
    Calls Try.prog 15 #[.agg #[.int .i64 0, .int .i64 pt, .int .i64 x2, .int .i64 x3, .int .i64 x4, .int .i64 x5], .int .i64 t] u fun e' w' =>
      e' = .returned (.agg #[.int .i64 0, .int .i64 pt, .int .i64 0, .int .i64 0, .int .i64 x4, .int .i64 0]) ∧ Below u.heap.size u w' := ton_any 0 pt x2 x3 x4 x5 t u

/-- A timer that begins. -/
theorem times_new (pt x2 x3 x4 t q : Int) (u : World) (hp : 0 ≤ pt) (hq : (pt ≤ 0 ∧ q = 1) ∨ (¬ pt ≤ 0 ∧ q = 0)) :
    Calls Try.prog 15 #[.agg #[.int .i64 1, .int .i64 pt, .int .i64 x2, .int .i64 x3, .int .i64 x4, .int .i64 0], .int .i64 t] u fun e' w' =>
      e' = .returned (.agg #[.int .i64 1, .int .i64 pt, .int .i64 q, .int .i64 0, .int .i64 t, .int .i64 1]) ∧ Below u.heap.size u w' := by
  refine ton_to 1 pt x2 x3 x4 0 t q 0 t 1 u ?_ ?_ (by simp [tonT]) (by simp [tonR])
  · rcases hq with ⟨h, rfl⟩ | ⟨h, rfl⟩ <;> simp [tonQ, tonD, bit, h]
  · have : ¬ pt < 0 := by omega
    simp [tonE, tonD, tonM, this]

/-- A timer that goes on. -/
theorem times_on (pt x2 x3 s t q e : Int) (u : World) (hp : 0 ≤ pt) (hs : 0 ≤ s) (hst : s ≤ t) (ht : t ≤ 10000) (hq : (pt ≤ t - s ∧ q = 1) ∨ (¬ pt ≤ t - s ∧ q = 0)) (he : (pt < t - s ∧ e = pt) ∨ (¬ pt < t - s ∧ e = t - s)) :
    Calls Try.prog 15 #[.agg #[.int .i64 1, .int .i64 pt, .int .i64 x2, .int .i64 x3, .int .i64 s, .int .i64 1], .int .i64 t] u fun e' w' =>
      e' = .returned (.agg #[.int .i64 1, .int .i64 pt, .int .i64 q, .int .i64 e, .int .i64 s, .int .i64 1]) ∧ Below u.heap.size u w' := by
  have hw : wrap64 (t - s) = t - s := IntWalk.wrap64_in _ ⟨by omega, by omega⟩
  have hd : tonD s 1 t = t - s := by
    have : ¬ t - s < 0 := by omega
    simp [tonD, hw, this]
  refine ton_to 1 pt x2 x3 s 1 t q e s 1 u ?_ ?_ (by simp [tonT]) (by simp [tonR])
  · rcases hq with ⟨h, rfl⟩ | ⟨h, rfl⟩ <;> simp [tonQ, hd, bit, h]
  · have h1 : ¬ pt < 0 := by omega
    have h2 : ¬ t - s < 0 := by omega
    rcases he with ⟨h, rfl⟩ | ⟨h, rfl⟩ <;> simp [tonE, hd, tonM, h1, h2, h]


set_option maxRecDepth 100000 in
set_option maxHeartbeats 4000000 in
theorem blocksTimes_walk (a0 : Int) (A1 : Option Addr) (len1 cap1 : Nat) (z1 : Nat → Int) (A2 : Option Addr) (len2 cap2 : Nat) (z2 : Nat → Bool) (w : World) (w0 : I64 a0)
    (c1 : Came w A1 len1 cap1 fun j => .int .i64 (z1 j)) (w1 : ∀ j, j < len1 → I64 (z1 j)) (c2 : Came w A2 len2 cap2 fun j => .bool (z2 j)) :
    Calls Try.prog 6 #[.int .i64 a0, .slice A1 len1 cap1, .slice A2 len2 cap2] w fun e w' => e = .returned (.bool true) ∧ Below w.heap.size w w' := by
  have hmax : (len1 : Int) ≤ 9223372036854775807 := by have := c1.le; have := c1.max; omega
  have hmax2 : (len2 : Int) ≤ 9223372036854775807 := by have := c2.le; have := c2.max; omega
  go_enter Try.func6, Try.ntmps6
  go_wp2_with fail
  refine (known_any _).mono ?_
  rintro e u1 ⟨rfl, hb1⟩
  have HB1 := Lib.hid hb1
  have hz1 : w.heap.size ≤ u1.heap.size := hb1.size
  clear hb1
  go_wp2_with fail
  refine (within_any _ 100 (by decide) (by decide) _).mono ?_
  rintro e _ ⟨rfl, rfl⟩
  have hp1 : 0 ≤ a0 % 100 := by omega
  have hp2 : a0 % 100 < 100 := by omega
  clear w0
  generalize a0 % 100 = p at *
  go_wp2_with fail
  go_loopw [8, 9, 10, 11] (fun now since run i wr => TimeRel w u1.heap.size len1 p now since run i wr) (fun _ _ _ i _ => len1 - (intOf i).toNat)
  case atStart => exact ⟨0, 5, 0, 0, 0, 0, 0, 0, false, by omega, by omega, rfl, rfl, rfl, rfl, by omega, by omega, by omega, .inl rfl, by simp, by simp, by constructor <;> go_simp, HB1.out.alloc hz1 _, by simp⟩
  case round =>
    obtain ⟨k, t, s, x0, x2, x3, x4, x5, r, hk, hk40, rfl, rfl, rfl, rfl, hs0, hst, ht, hx, hr1, hr0, hs, hb, hgl⟩ := hrel
    have hr1 := Lib.hid hr1
    have hr0 := Lib.hid hr0
    obtain ⟨k0, k1, k2, k3, k4, k5, f0, f1, f2, f3, f4, f5⟩ := hs
    by_cases hlt : k < len1
    · by_cases h40 : k < 40
      · obtain ⟨bb, off, rfl, hbb, hcell⟩ := c1.at_ (by omega)
        have hzk : wr.cell? ⟨bb, off + k, none⟩ = some (.int .i64 (z1 k)) := (hb.cell (p := ⟨bb, off + k, none⟩) hbb).trans (hcell k hlt)
        clear hcell w1 c1
        have HB := Lib.hid hb
        clear hb
        generalize z1 k = z at *
        go_wp2_with fail
        refine (within_any z 30 (by decide) (by decide) _).mono ?_
        rintro e _ ⟨rfl, rfl⟩
        have hzz1 : 0 ≤ z % 30 := by omega
        have hzz2 : z % 30 < 30 := by omega
        generalize z % 30 = zz at *
        by_cases hk2 : k < len2
        · obtain ⟨b2, off2, rfl, hbb2, hcell2⟩ := c2.at_ (by omega)
          have hzk2 : wr.cell? ⟨b2, off2 + k, none⟩ = some (.bool (z2 k)) := (HB.out.cell (p := ⟨b2, off2 + k, none⟩) hbb2).trans (hcell2 k hk2)
          clear hcell2 c2
          generalize z2 k = on at *
          cases on with
          | false =>
            clear hr0 hr1
            have hd : True := trivial
            go_wp2_with fail
            refine (times_off p x2 x3 x4 x5 (t + zz) _).mono ?_
            rintro e u2 ⟨rfl, hb2⟩
            have hz2 : wr.heap.size ≤ u2.heap.size := by have := hb2.size; simpa using this
            obtain ⟨k0, k1, k2, k3, k4, k5, f0, f1, f2, f3, f4, f5⟩ : Six u2 u1.heap.size 0 p x2 x3 x4 x5 := Six.below hb2 (by constructor <;> go_simp) (by simpa using hgl)
            have HB2 := Lib.hid ((HB.out.setCell (p := ⟨u1.heap.size, 0, none⟩) hz1 _).trans (hb2.mono (by have := HB.out.size; simpa using (Nat.le_trans this (by simp)))))
            clear hb2
            go_wp2
            go_roundw
            case rel => exact ⟨k + 1, t + zz, s, 0, 0, 0, x4, 0, false, by omega, by omega, by go_num, rfl, rfl, rfl, by omega, by omega, by omega, by simp, by simp, by simp, by constructor <;> go_simp, Below.setCell (Below.setCell (Below.setCell (Below.setCell (Below.setCell (Below.setCell HB2.out hz1 _) hz1 _) hz1 _) hz1 _) hz1 _) hz1 _, by simp; omega⟩
            case measure => simp [intOf]; omega
          | true =>
            cases r with
            | false =>
              have hx5 : x5 = 0 := hr0.out rfl
              clear hr0 hr1 hx
              subst hx5
              by_cases hq : p ≤ 0
              · have hp0 : p = 0 := by omega
                subst hp0
                go_wp2_with fail
                refine (times_new 0 x2 x3 x4 (t + zz) 1 _ (by omega) (by omega)).mono ?_
                rintro e u2 ⟨rfl, hb2⟩
                have hz2 : wr.heap.size ≤ u2.heap.size := by have := hb2.size; simpa using this
                obtain ⟨k0, k1, k2, k3, k4, k5, f0, f1, f2, f3, f4, f5⟩ : Six u2 u1.heap.size 1 0 x2 x3 x4 0 := Six.below hb2 (by constructor <;> go_simp) (by simpa using hgl)
                have HB2 := Lib.hid (((HB.out.setCell (p := ⟨u1.heap.size, 0, none⟩) hz1 _).setCell (p := ⟨u1.heap.size, 0, none⟩) hz1 _).trans (hb2.mono (by have := HB.out.size; simpa using (Nat.le_trans this (by simp)))))
                clear hb2
                go_wp2
                go_roundw
                case rel => exact ⟨k + 1, t + zz, t + zz, 1, 1, 0, t + zz, 1, true, by omega, by omega, by go_num, rfl, rfl, rfl, by omega, by omega, by omega, by simp, by simp, by simp, by constructor <;> go_simp, Below.setCell (Below.setCell (Below.setCell (Below.setCell (Below.setCell (Below.setCell HB2.out hz1 _) hz1 _) hz1 _) hz1 _) hz1 _) hz1 _, by simp; omega⟩
                case measure => simp [intOf]; omega
              · have hqd : decide (p ≤ 0) = false := by simpa using hq
                go_wp2_with fail
                refine (times_new p x2 x3 x4 (t + zz) 0 _ (by omega) (by omega)).mono ?_
                rintro e u2 ⟨rfl, hb2⟩
                have hz2 : wr.heap.size ≤ u2.heap.size := by have := hb2.size; simpa using this
                obtain ⟨k0, k1, k2, k3, k4, k5, f0, f1, f2, f3, f4, f5⟩ : Six u2 u1.heap.size 1 p x2 x3 x4 0 := Six.below hb2 (by constructor <;> go_simp) (by simpa using hgl)
                have HB2 := Lib.hid (((HB.out.setCell (p := ⟨u1.heap.size, 0, none⟩) hz1 _).setCell (p := ⟨u1.heap.size, 0, none⟩) hz1 _).trans (hb2.mono (by have := HB.out.size; simpa using (Nat.le_trans this (by simp)))))
                clear hb2
                go_wp2
                go_roundw
                case rel => exact ⟨k + 1, t + zz, t + zz, 1, 0, 0, t + zz, 1, true, by omega, by omega, by go_num, rfl, rfl, rfl, by omega, by omega, by omega, by simp, by simp, by simp, by constructor <;> go_simp, Below.setCell (Below.setCell (Below.setCell (Below.setCell (Below.setCell (Below.setCell HB2.out hz1 _) hz1 _) hz1 _) hz1 _) hz1 _) hz1 _, by simp; omega⟩
                case measure => simp [intOf]; omega
            | true =>
              obtain ⟨hx5, hx4⟩ := hr1.out rfl
              clear hr0 hr1 hx
              subst hx5
              subst hx4
              by_cases hq : p < t + zz - x4
              ·
                go_wp2_with fail
                refine (times_on p x2 x3 x4 (t + zz) 1 p _ (by omega) (by omega) (by omega) (by omega) (by omega) (by omega)).mono ?_
                rintro e u2 ⟨rfl, hb2⟩
                have hz2 : wr.heap.size ≤ u2.heap.size := by have := hb2.size; simpa using this
                obtain ⟨k0, k1, k2, k3, k4, k5, f0, f1, f2, f3, f4, f5⟩ : Six u2 u1.heap.size 1 p x2 x3 x4 1 := Six.below hb2 (by constructor <;> go_simp) (by simpa using hgl)
                have HB2 := Lib.hid (((HB.out.setCell (p := ⟨u1.heap.size, 0, none⟩) hz1 _).setCell (p := ⟨u1.heap.size, 0, none⟩) hz1 _).trans (hb2.mono (by have := HB.out.size; simpa using (Nat.le_trans this (by simp)))))
                clear hb2
                go_wp2
                go_roundw
                case rel => exact ⟨k + 1, t + zz, x4, 1, 1, p, x4, 1, true, by omega, by omega, by go_num, rfl, rfl, rfl, by omega, by omega, by omega, by simp, by simp, by simp, by constructor <;> go_simp, Below.setCell (Below.setCell (Below.setCell (Below.setCell (Below.setCell (Below.setCell HB2.out hz1 _) hz1 _) hz1 _) hz1 _) hz1 _) hz1 _, by simp; omega⟩
                case measure => simp [intOf]; omega
              · by_cases hq2 : p ≤ t + zz - x4
                ·
                  go_wp2_with fail
                  refine (times_on p x2 x3 x4 (t + zz) 1 (t + zz - x4) _ (by omega) (by omega) (by omega) (by omega) (by omega) (by omega)).mono ?_
                  rintro e u2 ⟨rfl, hb2⟩
                  have hz2 : wr.heap.size ≤ u2.heap.size := by have := hb2.size; simpa using this
                  obtain ⟨k0, k1, k2, k3, k4, k5, f0, f1, f2, f3, f4, f5⟩ : Six u2 u1.heap.size 1 p x2 x3 x4 1 := Six.below hb2 (by constructor <;> go_simp) (by simpa using hgl)
                  have HB2 := Lib.hid (((HB.out.setCell (p := ⟨u1.heap.size, 0, none⟩) hz1 _).setCell (p := ⟨u1.heap.size, 0, none⟩) hz1 _).trans (hb2.mono (by have := HB.out.size; simpa using (Nat.le_trans this (by simp)))))
                  clear hb2
                  go_wp2
                  go_roundw
                  case rel => exact ⟨k + 1, t + zz, x4, 1, 1, (t + zz - x4), x4, 1, true, by omega, by omega, by go_num, rfl, rfl, rfl, by omega, by omega, by omega, by simp, by simp, by simp, by constructor <;> go_simp, Below.setCell (Below.setCell (Below.setCell (Below.setCell (Below.setCell (Below.setCell HB2.out hz1 _) hz1 _) hz1 _) hz1 _) hz1 _) hz1 _, by simp; omega⟩
                  case measure => simp [intOf]; omega
                · have hqd : decide (p ≤ t + zz - x4) = false := by simpa using hq2
                  go_wp2_with fail
                  refine (times_on p x2 x3 x4 (t + zz) 0 (t + zz - x4) _ (by omega) (by omega) (by omega) (by omega) (by omega) (by omega)).mono ?_
                  rintro e u2 ⟨rfl, hb2⟩
                  have hz2 : wr.heap.size ≤ u2.heap.size := by have := hb2.size; simpa using this
                  obtain ⟨k0, k1, k2, k3, k4, k5, f0, f1, f2, f3, f4, f5⟩ : Six u2 u1.heap.size 1 p x2 x3 x4 1 := Six.below hb2 (by constructor <;> go_simp) (by simpa using hgl)
                  have HB2 := Lib.hid (((HB.out.setCell (p := ⟨u1.heap.size, 0, none⟩) hz1 _).setCell (p := ⟨u1.heap.size, 0, none⟩) hz1 _).trans (hb2.mono (by have := HB.out.size; simpa using (Nat.le_trans this (by simp)))))
                  clear hb2
                  go_wp2
                  go_roundw
                  case rel => exact ⟨k + 1, t + zz, x4, 1, 0, (t + zz - x4), x4, 1, true, by omega, by omega, by go_num, rfl, rfl, rfl, by omega, by omega, by omega, by simp, by simp, by simp, by constructor <;> go_simp, Below.setCell (Below.setCell (Below.setCell (Below.setCell (Below.setCell (Below.setCell HB2.out hz1 _) hz1 _) hz1 _) hz1 _) hz1 _) hz1 _, by simp; omega⟩
                  case measure => simp [intOf]; omega
        · clear c2
          cases r with
          | false =>
            have hx5 : x5 = 0 := hr0.out rfl
            clear hr0 hr1 hx
            subst hx5
            by_cases hq : p ≤ 0
            · have hp0 : p = 0 := by omega
              subst hp0
              go_wp2_with fail
              refine (times_new 0 x2 x3 x4 (t + zz) 1 _ (by omega) (by omega)).mono ?_
              rintro e u2 ⟨rfl, hb2⟩
              have hz2 : wr.heap.size ≤ u2.heap.size := by have := hb2.size; simpa using this
              obtain ⟨k0, k1, k2, k3, k4, k5, f0, f1, f2, f3, f4, f5⟩ : Six u2 u1.heap.size 1 0 x2 x3 x4 0 := Six.below hb2 (by constructor <;> go_simp) (by simpa using hgl)
              have HB2 := Lib.hid (((HB.out.setCell (p := ⟨u1.heap.size, 0, none⟩) hz1 _).setCell (p := ⟨u1.heap.size, 0, none⟩) hz1 _).trans (hb2.mono (by have := HB.out.size; simpa using (Nat.le_trans this (by simp)))))
              clear hb2
              go_wp2
              go_roundw
              case rel => exact ⟨k + 1, t + zz, t + zz, 1, 1, 0, t + zz, 1, true, by omega, by omega, by go_num, rfl, rfl, rfl, by omega, by omega, by omega, by simp, by simp, by simp, by constructor <;> go_simp, Below.setCell (Below.setCell (Below.setCell (Below.setCell (Below.setCell (Below.setCell HB2.out hz1 _) hz1 _) hz1 _) hz1 _) hz1 _) hz1 _, by simp; omega⟩
              case measure => simp [intOf]; omega
            · have hqd : decide (p ≤ 0) = false := by simpa using hq
              go_wp2_with fail
              refine (times_new p x2 x3 x4 (t + zz) 0 _ (by omega) (by omega)).mono ?_
              rintro e u2 ⟨rfl, hb2⟩
              have hz2 : wr.heap.size ≤ u2.heap.size := by have := hb2.size; simpa using this
              obtain ⟨k0, k1, k2, k3, k4, k5, f0, f1, f2, f3, f4, f5⟩ : Six u2 u1.heap.size 1 p x2 x3 x4 0 := Six.below hb2 (by constructor <;> go_simp) (by simpa using hgl)
              have HB2 := Lib.hid (((HB.out.setCell (p := ⟨u1.heap.size, 0, none⟩) hz1 _).setCell (p := ⟨u1.heap.size, 0, none⟩) hz1 _).trans (hb2.mono (by have := HB.out.size; simpa using (Nat.le_trans this (by simp)))))
              clear hb2
              go_wp2
              go_roundw
              case rel => exact ⟨k + 1, t + zz, t + zz, 1, 0, 0, t + zz, 1, true, by omega, by omega, by go_num, rfl, rfl, rfl, by omega, by omega, by omega, by simp, by simp, by simp, by constructor <;> go_simp, Below.setCell (Below.setCell (Below.setCell (Below.setCell (Below.setCell (Below.setCell HB2.out hz1 _) hz1 _) hz1 _) hz1 _) hz1 _) hz1 _, by simp; omega⟩
              case measure => simp [intOf]; omega
          | true =>
            obtain ⟨hx5, hx4⟩ := hr1.out rfl
            clear hr0 hr1 hx
            subst hx5
            subst hx4
            by_cases hq : p < t + zz - x4
            ·
              go_wp2_with fail
              refine (times_on p x2 x3 x4 (t + zz) 1 p _ (by omega) (by omega) (by omega) (by omega) (by omega) (by omega)).mono ?_
              rintro e u2 ⟨rfl, hb2⟩
              have hz2 : wr.heap.size ≤ u2.heap.size := by have := hb2.size; simpa using this
              obtain ⟨k0, k1, k2, k3, k4, k5, f0, f1, f2, f3, f4, f5⟩ : Six u2 u1.heap.size 1 p x2 x3 x4 1 := Six.below hb2 (by constructor <;> go_simp) (by simpa using hgl)
              have HB2 := Lib.hid (((HB.out.setCell (p := ⟨u1.heap.size, 0, none⟩) hz1 _).setCell (p := ⟨u1.heap.size, 0, none⟩) hz1 _).trans (hb2.mono (by have := HB.out.size; simpa using (Nat.le_trans this (by simp)))))
              clear hb2
              go_wp2
              go_roundw
              case rel => exact ⟨k + 1, t + zz, x4, 1, 1, p, x4, 1, true, by omega, by omega, by go_num, rfl, rfl, rfl, by omega, by omega, by omega, by simp, by simp, by simp, by constructor <;> go_simp, Below.setCell (Below.setCell (Below.setCell (Below.setCell (Below.setCell (Below.setCell HB2.out hz1 _) hz1 _) hz1 _) hz1 _) hz1 _) hz1 _, by simp; omega⟩
              case measure => simp [intOf]; omega
            · by_cases hq2 : p ≤ t + zz - x4
              ·
                go_wp2_with fail
                refine (times_on p x2 x3 x4 (t + zz) 1 (t + zz - x4) _ (by omega) (by omega) (by omega) (by omega) (by omega) (by omega)).mono ?_
                rintro e u2 ⟨rfl, hb2⟩
                have hz2 : wr.heap.size ≤ u2.heap.size := by have := hb2.size; simpa using this
                obtain ⟨k0, k1, k2, k3, k4, k5, f0, f1, f2, f3, f4, f5⟩ : Six u2 u1.heap.size 1 p x2 x3 x4 1 := Six.below hb2 (by constructor <;> go_simp) (by simpa using hgl)
                have HB2 := Lib.hid (((HB.out.setCell (p := ⟨u1.heap.size, 0, none⟩) hz1 _).setCell (p := ⟨u1.heap.size, 0, none⟩) hz1 _).trans (hb2.mono (by have := HB.out.size; simpa using (Nat.le_trans this (by simp)))))
                clear hb2
                go_wp2
                go_roundw
                case rel => exact ⟨k + 1, t + zz, x4, 1, 1, (t + zz - x4), x4, 1, true, by omega, by omega, by go_num, rfl, rfl, rfl, by omega, by omega, by omega, by simp, by simp, by simp, by constructor <;> go_simp, Below.setCell (Below.setCell (Below.setCell (Below.setCell (Below.setCell (Below.setCell HB2.out hz1 _) hz1 _) hz1 _) hz1 _) hz1 _) hz1 _, by simp; omega⟩
                case measure => simp [intOf]; omega
              · have hqd : decide (p ≤ t + zz - x4) = false := by simpa using hq2
                go_wp2_with fail
                refine (times_on p x2 x3 x4 (t + zz) 0 (t + zz - x4) _ (by omega) (by omega) (by omega) (by omega) (by omega) (by omega)).mono ?_
                rintro e u2 ⟨rfl, hb2⟩
                have hz2 : wr.heap.size ≤ u2.heap.size := by have := hb2.size; simpa using this
                obtain ⟨k0, k1, k2, k3, k4, k5, f0, f1, f2, f3, f4, f5⟩ : Six u2 u1.heap.size 1 p x2 x3 x4 1 := Six.below hb2 (by constructor <;> go_simp) (by simpa using hgl)
                have HB2 := Lib.hid (((HB.out.setCell (p := ⟨u1.heap.size, 0, none⟩) hz1 _).setCell (p := ⟨u1.heap.size, 0, none⟩) hz1 _).trans (hb2.mono (by have := HB.out.size; simpa using (Nat.le_trans this (by simp)))))
                clear hb2
                go_wp2
                go_roundw
                case rel => exact ⟨k + 1, t + zz, x4, 1, 0, (t + zz - x4), x4, 1, true, by omega, by omega, by go_num, rfl, rfl, rfl, by omega, by omega, by omega, by simp, by simp, by simp, by constructor <;> go_simp, Below.setCell (Below.setCell (Below.setCell (Below.setCell (Below.setCell (Below.setCell HB2.out hz1 _) hz1 _) hz1 _) hz1 _) hz1 _) hz1 _, by simp; omega⟩
                case measure => simp [intOf]; omega
      · have HB := Lib.hid hb
        clear hb w1
        go_wp2
        go_ret
        exact ⟨rfl, HB.out⟩
    · have HB := Lib.hid hb
      clear hb w1
      go_wp2
      go_ret
      exact ⟨rfl, HB.out⟩
end Go.Proofs.Ytodjiplbecpplaa
