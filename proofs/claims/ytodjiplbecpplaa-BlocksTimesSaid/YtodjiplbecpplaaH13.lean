/- Chapter 13: the walk of BlocksCounts. -/
import Derived.Test.YtodjiplbecpplaaG13
namespace Go.Proofs.Ytodjiplbecpplaa
open Go.RowKit
set_option linter.unusedVariables false
attribute [local go_sem ↓] Go.wp_at_zero Go.wp_at_succ

/-- What the loop of BlocksCounts holds: the counter's count is n, its old input is was. -/
def CountRel (w : World) (g len : Nat) (pv : Int) (n was i : Value) (wr : World) : Prop :=
  ∃ (k : Nat) (cn cw x0 x1 x3 : Int), k ≤ len ∧ k ≤ 60 ∧ i = .int .i64 k ∧ n = .int .i64 cn ∧ was = .int .i64 cw ∧ 0 ≤ cn ∧ cn ≤ k ∧ (cw = 0 ∨ cw = 1) ∧
    Six wr g x0 x1 pv x3 cn cw ∧ Below w.heap.size w wr ∧ g < wr.heap.size

theorem bit_yes {a b : Int} (h : a ≤ b) : bit (decide (a ≤ b)) = 1 := by simp [bit, h]
theorem bit_no {a b : Int} (h : ¬ a ≤ b) : bit (decide (a ≤ b)) = 0 := by simp [bit, h]

theorem ctu_to (c0 c1 c2 c3 c4 c5 v q : Int) (w : World) (hv : ctuV c0 c1 c4 c5 = v) (hq : bit (decide (c2 ≤ v)) = q) (hl : -9223372036854775808 ≤ c4) :
    Calls Try.prog 12 #[.agg #[.int .i64 c0, .int .i64 c1, .int .i64 c2, .int .i64 c3, .int .i64 c4, .int .i64 c5]] w fun e w' =>
      e = .returned (.agg #[.int .i64 c0, .int .i64 c1, .int .i64 c2, .int .i64 q, .int .i64 v, .int .i64 c0]) ∧ Below w.heap.size w w' := by
  subst hv; subst hq; exact ctu_any c0 c1 c2 c3 c4 c5 w hl

set_option maxHeartbeats 4000000 in
theorem blocksCounts_walk (a0 : Int) (A1 : Option Addr) (len1 cap1 : Nat) (z1 : Nat → Int) (w : World) (w0 : I64 a0) (c1 : Came w A1 len1 cap1 fun j => .int .i64 (z1 j)) (w1 : ∀ j, j < len1 → I64 (z1 j)) :
    Calls Try.prog 3 #[.int .i64 a0, .slice A1 len1 cap1] w fun e w' => e = .returned (.bool true) ∧ Below w.heap.size w w' := by
  have hmax : (len1 : Int) ≤ 9223372036854775807 := by have := c1.le; have := c1.max; omega
  go_enter Try.func3, Try.ntmps3
  go_wp2_with fail
  refine (known_any _).mono ?_
  rintro e u1 ⟨rfl, hb1⟩
  have HB1 := Lib.hid hb1
  have hz1 : w.heap.size ≤ u1.heap.size := hb1.size
  clear hb1
  go_wp2_with fail
  refine (within_any _ 12 (by decide) (by decide) _).mono ?_
  rintro e _ ⟨rfl, rfl⟩
  have hp1 : 0 ≤ a0 % 12 := by omega
  have hp2 : a0 % 12 < 12 := by omega
  clear w0
  generalize a0 % 12 = p at *
  go_wp2_with fail
  go_loopw [6, 7, 8] (fun n was i wr => CountRel w u1.heap.size len1 (p - 2) n was i wr) (fun _ _ i _ => len1 - (intOf i).toNat)
  case atStart => exact ⟨0, 0, 0, 0, 0, 0, by omega, by omega, rfl, rfl, rfl, by omega, by omega, .inl rfl, by constructor <;> go_simp, HB1.out.alloc hz1 _, by simp⟩
  case round =>
    obtain ⟨k, cn, cw, x0, x1, x3, hk, hk60, rfl, rfl, rfl, hn0, hnk, hcw, hs, hb, hgl⟩ := hrel
    obtain ⟨k0, k1, k2, k3, k4, k5, f0, f1, f2, f3, f4, f5⟩ := hs
    by_cases hlt : k < len1
    · by_cases h60 : k < 60
      · obtain ⟨bb, off, rfl, hbb, hcell⟩ := c1.at_ (by omega)
        have hzk : wr.cell? ⟨bb, off + k, none⟩ = some (.int .i64 (z1 k)) := (hb.cell (p := ⟨bb, off + k, none⟩) hbb).trans (hcell k hlt)
        have hzi := w1 k hlt
        have HB := Lib.hid hb
        clear hb hcell w1 c1
        generalize z1 k = z at *
        go_wp2_with fail
        refine (within_any z 2 (by decide) (by decide) _).mono ?_
        rintro e _ ⟨rfl, rfl⟩
        have hcu : z % 2 = 0 ∨ z % 2 = 1 := by omega
        generalize z % 2 = cu at *
        go_wp2_with fail
        refine (within_any _ 9 (by decide) (by decide) _).mono ?_
        rintro e _ ⟨rfl, rfl⟩
        generalize (_ : Int) % 9 = rr at *
        by_cases hr : rr = 0
        · subst hr
          by_cases hq : p - 2 ≤ 0
          · go_wp2_with fail
            refine (ctu_to cu 1 (p - 2) x3 cn cw 0 1 _ (by simp [ctuV]) (bit_yes (by omega)) (by omega)).mono ?_
            rintro e u2 ⟨rfl, hb2⟩
            have hz2 : wr.heap.size ≤ u2.heap.size := by have := hb2.size; simpa using this
            obtain ⟨k0, k1, k2, k3, k4, k5, f0, f1, f2, f3, f4, f5⟩ : Six u2 u1.heap.size cu 1 (p - 2) x3 cn cw := Six.below hb2 (by constructor <;> go_simp) (by simpa using hgl)
            have HB2 := Lib.hid (((HB.out.setCell (p := ⟨u1.heap.size, 0, none⟩) hz1 _).setCell (p := ⟨u1.heap.size, 1, none⟩) hz1 _).trans (hb2.mono (by have := HB.out.size; simpa using this)))
            clear hb2
            go_wp2
            go_roundw
            case rel => exact ⟨k + 1, 0, cu, cu, 1, 1, by omega, by omega, by go_num, rfl, rfl, by omega, by omega, by omega, by constructor <;> go_simp, Below.setCell (Below.setCell (Below.setCell (Below.setCell (Below.setCell (Below.setCell HB2.out hz1 _) hz1 _) hz1 _) hz1 _) hz1 _) hz1 _, by simp; omega⟩
            case measure => simp [intOf]; omega
          · go_wp2_with fail
            refine (ctu_to cu 1 (p - 2) x3 cn cw 0 0 _ (by simp [ctuV]) (bit_no (by omega)) (by omega)).mono ?_
            rintro e u2 ⟨rfl, hb2⟩
            have hz2 : wr.heap.size ≤ u2.heap.size := by have := hb2.size; simpa using this
            obtain ⟨k0, k1, k2, k3, k4, k5, f0, f1, f2, f3, f4, f5⟩ : Six u2 u1.heap.size cu 1 (p - 2) x3 cn cw := Six.below hb2 (by constructor <;> go_simp) (by simpa using hgl)
            have HB2 := Lib.hid (((HB.out.setCell (p := ⟨u1.heap.size, 0, none⟩) hz1 _).setCell (p := ⟨u1.heap.size, 1, none⟩) hz1 _).trans (hb2.mono (by have := HB.out.size; simpa using this)))
            clear hb2
            go_wp2
            go_roundw
            case rel => exact ⟨k + 1, 0, cu, cu, 1, 0, by omega, by omega, by go_num, rfl, rfl, by omega, by omega, by omega, by constructor <;> go_simp, Below.setCell (Below.setCell (Below.setCell (Below.setCell (Below.setCell (Below.setCell HB2.out hz1 _) hz1 _) hz1 _) hz1 _) hz1 _) hz1 _, by simp; omega⟩
            case measure => simp [intOf]; omega
        · have hr' : (rr == 0) = false := by simpa using hr
          clear hr
          rcases hcu with rfl | rfl
          · by_cases hq : p - 2 ≤ cn
            · go_wp2_with fail
              refine (ctu_to 0 0 (p - 2) x3 cn cw cn 1 _ (by simp [ctuV]) (bit_yes (by omega)) (by omega)).mono ?_
              rintro e u2 ⟨rfl, hb2⟩
              have hz2 : wr.heap.size ≤ u2.heap.size := by have := hb2.size; simpa using this
              obtain ⟨k0, k1, k2, k3, k4, k5, f0, f1, f2, f3, f4, f5⟩ : Six u2 u1.heap.size 0 0 (p - 2) x3 cn cw := Six.below hb2 (by constructor <;> go_simp) (by simpa using hgl)
              have HB2 := Lib.hid (((HB.out.setCell (p := ⟨u1.heap.size, 0, none⟩) hz1 _).setCell (p := ⟨u1.heap.size, 1, none⟩) hz1 _).trans (hb2.mono (by have := HB.out.size; simpa using this)))
              clear hb2
              go_wp2
              go_roundw
              case rel => exact ⟨k + 1, cn, 0, 0, 0, 1, by omega, by omega, by go_num, rfl, rfl, by omega, by omega, by omega, by constructor <;> go_simp, Below.setCell (Below.setCell (Below.setCell (Below.setCell (Below.setCell (Below.setCell HB2.out hz1 _) hz1 _) hz1 _) hz1 _) hz1 _) hz1 _, by simp; omega⟩
              case measure => simp [intOf]; omega
            · go_wp2_with fail
              refine (ctu_to 0 0 (p - 2) x3 cn cw cn 0 _ (by simp [ctuV]) (bit_no (by omega)) (by omega)).mono ?_
              rintro e u2 ⟨rfl, hb2⟩
              have hz2 : wr.heap.size ≤ u2.heap.size := by have := hb2.size; simpa using this
              obtain ⟨k0, k1, k2, k3, k4, k5, f0, f1, f2, f3, f4, f5⟩ : Six u2 u1.heap.size 0 0 (p - 2) x3 cn cw := Six.below hb2 (by constructor <;> go_simp) (by simpa using hgl)
              have HB2 := Lib.hid (((HB.out.setCell (p := ⟨u1.heap.size, 0, none⟩) hz1 _).setCell (p := ⟨u1.heap.size, 1, none⟩) hz1 _).trans (hb2.mono (by have := HB.out.size; simpa using this)))
              clear hb2
              go_wp2
              go_roundw
              case rel => exact ⟨k + 1, cn, 0, 0, 0, 0, by omega, by omega, by go_num, rfl, rfl, by omega, by omega, by omega, by constructor <;> go_simp, Below.setCell (Below.setCell (Below.setCell (Below.setCell (Below.setCell (Below.setCell HB2.out hz1 _) hz1 _) hz1 _) hz1 _) hz1 _) hz1 _, by simp; omega⟩
              case measure => simp [intOf]; omega
          · rcases hcw with rfl | rfl
            · by_cases hq : p - 2 ≤ cn + 1
              · go_wp2_with fail
                refine (ctu_to 1 0 (p - 2) x3 cn 0 (cn + 1) 1 _ (by simp [ctuV]; omega) (bit_yes (by omega)) (by omega)).mono ?_
                rintro e u2 ⟨rfl, hb2⟩
                have hz2 : wr.heap.size ≤ u2.heap.size := by have := hb2.size; simpa using this
                obtain ⟨k0, k1, k2, k3, k4, k5, f0, f1, f2, f3, f4, f5⟩ : Six u2 u1.heap.size 1 0 (p - 2) x3 cn 0 := Six.below hb2 (by constructor <;> go_simp) (by simpa using hgl)
                have HB2 := Lib.hid (((HB.out.setCell (p := ⟨u1.heap.size, 0, none⟩) hz1 _).setCell (p := ⟨u1.heap.size, 1, none⟩) hz1 _).trans (hb2.mono (by have := HB.out.size; simpa using this)))
                clear hb2
                go_wp2
                go_roundw
                case rel => exact ⟨k + 1, (cn + 1), 1, 1, 0, 1, by omega, by omega, by go_num, rfl, rfl, by omega, by omega, by omega, by constructor <;> go_simp, Below.setCell (Below.setCell (Below.setCell (Below.setCell (Below.setCell (Below.setCell HB2.out hz1 _) hz1 _) hz1 _) hz1 _) hz1 _) hz1 _, by simp; omega⟩
                case measure => simp [intOf]; omega
              · go_wp2_with fail
                refine (ctu_to 1 0 (p - 2) x3 cn 0 (cn + 1) 0 _ (by simp [ctuV]; omega) (bit_no (by omega)) (by omega)).mono ?_
                rintro e u2 ⟨rfl, hb2⟩
                have hz2 : wr.heap.size ≤ u2.heap.size := by have := hb2.size; simpa using this
                obtain ⟨k0, k1, k2, k3, k4, k5, f0, f1, f2, f3, f4, f5⟩ : Six u2 u1.heap.size 1 0 (p - 2) x3 cn 0 := Six.below hb2 (by constructor <;> go_simp) (by simpa using hgl)
                have HB2 := Lib.hid (((HB.out.setCell (p := ⟨u1.heap.size, 0, none⟩) hz1 _).setCell (p := ⟨u1.heap.size, 1, none⟩) hz1 _).trans (hb2.mono (by have := HB.out.size; simpa using this)))
                clear hb2
                go_wp2
                go_roundw
                case rel => exact ⟨k + 1, (cn + 1), 1, 1, 0, 0, by omega, by omega, by go_num, rfl, rfl, by omega, by omega, by omega, by constructor <;> go_simp, Below.setCell (Below.setCell (Below.setCell (Below.setCell (Below.setCell (Below.setCell HB2.out hz1 _) hz1 _) hz1 _) hz1 _) hz1 _) hz1 _, by simp; omega⟩
                case measure => simp [intOf]; omega
            · by_cases hq : p - 2 ≤ cn
              · go_wp2_with fail
                refine (ctu_to 1 0 (p - 2) x3 cn 1 cn 1 _ (by simp [ctuV]) (bit_yes (by omega)) (by omega)).mono ?_
                rintro e u2 ⟨rfl, hb2⟩
                have hz2 : wr.heap.size ≤ u2.heap.size := by have := hb2.size; simpa using this
                obtain ⟨k0, k1, k2, k3, k4, k5, f0, f1, f2, f3, f4, f5⟩ : Six u2 u1.heap.size 1 0 (p - 2) x3 cn 1 := Six.below hb2 (by constructor <;> go_simp) (by simpa using hgl)
                have HB2 := Lib.hid (((HB.out.setCell (p := ⟨u1.heap.size, 0, none⟩) hz1 _).setCell (p := ⟨u1.heap.size, 1, none⟩) hz1 _).trans (hb2.mono (by have := HB.out.size; simpa using this)))
                clear hb2
                go_wp2
                go_roundw
                case rel => exact ⟨k + 1, cn, 1, 1, 0, 1, by omega, by omega, by go_num, rfl, rfl, by omega, by omega, by omega, by constructor <;> go_simp, Below.setCell (Below.setCell (Below.setCell (Below.setCell (Below.setCell (Below.setCell HB2.out hz1 _) hz1 _) hz1 _) hz1 _) hz1 _) hz1 _, by simp; omega⟩
                case measure => simp [intOf]; omega
              · go_wp2_with fail
                refine (ctu_to 1 0 (p - 2) x3 cn 1 cn 0 _ (by simp [ctuV]) (bit_no (by omega)) (by omega)).mono ?_
                rintro e u2 ⟨rfl, hb2⟩
                have hz2 : wr.heap.size ≤ u2.heap.size := by have := hb2.size; simpa using this
                obtain ⟨k0, k1, k2, k3, k4, k5, f0, f1, f2, f3, f4, f5⟩ : Six u2 u1.heap.size 1 0 (p - 2) x3 cn 1 := Six.below hb2 (by constructor <;> go_simp) (by simpa using hgl)
                have HB2 := Lib.hid (((HB.out.setCell (p := ⟨u1.heap.size, 0, none⟩) hz1 _).setCell (p := ⟨u1.heap.size, 1, none⟩) hz1 _).trans (hb2.mono (by have := HB.out.size; simpa using this)))
                clear hb2
                go_wp2
                go_roundw
                case rel => exact ⟨k + 1, cn, 1, 1, 0, 0, by omega, by omega, by go_num, rfl, rfl, by omega, by omega, by omega, by constructor <;> go_simp, Below.setCell (Below.setCell (Below.setCell (Below.setCell (Below.setCell (Below.setCell HB2.out hz1 _) hz1 _) hz1 _) hz1 _) hz1 _) hz1 _, by simp; omega⟩
                case measure => simp [intOf]; omega
      · have HB := Lib.hid hb
        clear hb w1
        go_wp2
        go_ret
        exact ⟨rfl, HB.out⟩
    · have HB := Lib.hid hb
      clear hb w1
      go_wp2
      go_ret
      exact ⟨rfl, HB.out⟩
end Go.Proofs.Ytodjiplbecpplaa
