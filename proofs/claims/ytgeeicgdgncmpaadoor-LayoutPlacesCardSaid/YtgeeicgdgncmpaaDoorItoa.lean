/- strconv.Itoa at 0 .. 99: one digit, or two. -/
import Derived.Test.YtgeeicgdgncmpaaDoorRows
import Derived.WalkKit
import Derived.Lib.ItoaNum
import Derived.Lib.Strings
import Derived.Lib.ItoaWalk
import Derived.Lib.Hide
import Derived.BigGuardPart
namespace Go.Proofs.YtgeeicgdgncmpaaDoor
open Go.RowKit Go.Lib
set_option linter.unusedVariables false

/-- A number's digits, from 0 to 99. -/
def digits2 (i : Nat) : ByteArray := if i < 10 then { data := #[UInt8.ofNat (48 + i)] } else { data := #[UInt8.ofNat (48 + i / 10), UInt8.ofNat (48 + i % 10)] }
theorem digits2_size (i : Nat) : (digits2 i).size ≤ 2 := by
  unfold digits2
  split
  · show 1 ≤ 2; omega
  · show 2 ≤ 2; omega
theorem decDigits_two {i : Nat} (h : i < 100) : (⟨(Lib.decDigits i).toArray⟩ : ByteArray) = digits2 i := by
  unfold digits2
  by_cases h10 : i < 10
  · rw [if_pos h10, Lib.decDigits, dif_pos h10]
  · rw [if_neg h10, Lib.decDigits, dif_neg h10, Lib.decDigits, dif_pos (by omega)]
    rfl
theorem bytes_list (x : ByteArray) (l : List UInt8) (h : x.data.toList = l) : x = ⟨l.toArray⟩ := by
  subst h
  cases x
  simp

set_option maxHeartbeats 2000000 in
set_option maxRecDepth 100000 in
theorem small_any (i : Nat) (h : i < 100) (w : World) :
    Calls Tryd.prog 32 #[.int .i64 i] w fun e w' => e = .returned (.string (digits2 i)) ∧ w' = w := by
  rw [← decDigits_two h]
  have t9 := Tryd.underlying9
  go_enter Tryd.func32, Tryd.ntmps32
  go_name_bytes_deep 45 SM hSM
  have eSM : SM = Lib.smalls := by rw [← hSM]; decide +kernel
  subst eSM
  clear hSM
  go_name_bytes_deep 30 DG hDG
  have eDG : DG = Lib.digits36 := by rw [← hDG]; decide +kernel
  subst eDG
  clear hDG
  by_cases h10 : i < 10
  · have hsl : ∀ w, (Instr.slice 9 (.string Lib.digits36) (some (.int .i64 (i : Int))) (some (.int .i64 ((i : Int) + 1))) none).run Tryd.prog w = .ok (.string (Lib.digits36.extract i (i + 1))) w := fun w => by
      rw [run_slice_string w 9 Lib.digits36 .i64 .i64 _ _ t9 (by omega) (by omega) (by rw [Lib.digits36_size]; omega), show ((i : Int)).toNat = i by omega, show ((i : Int) + 1).toNat = i + 1 by omega]
    go_wp2
    go_ret
    refine ⟨?_, rfl⟩
    show Ending.returned (Value.string (Lib.digits36.extract i (i + 1))) = _
    rw [bytes_list (Lib.digits36.extract i (i + 1)) (Lib.decDigits i) (by rw [Lib.extract_data]; exact Lib.digits36_piece h10)]
  · have hsl : ∀ w, (Instr.slice 9 (.string Lib.smalls) (some (.int .i64 ((i : Int) * 2))) (some (.int .i64 ((i : Int) * 2 + 2))) none).run Tryd.prog w = .ok (.string (Lib.smalls.extract (i * 2) (i * 2 + 2))) w := fun w => by
      rw [run_slice_string w 9 Lib.smalls .i64 .i64 _ _ t9 (by omega) (by omega) (by rw [Lib.smalls_size]; omega), show ((i : Int) * 2).toNat = i * 2 by omega, show ((i : Int) * 2 + 2).toNat = i * 2 + 2 by omega]
    go_wp2
    go_ret
    refine ⟨?_, rfl⟩
    show Ending.returned (Value.string (Lib.smalls.extract (i * 2) (i * 2 + 2))) = _
    rw [bytes_list (Lib.smalls.extract (i * 2) (i * 2 + 2)) (Lib.decDigits i) (by rw [Lib.extract_data]; exact Lib.smalls_piece h10 h)]

set_option maxHeartbeats 2000000 in
theorem formatInt_any (i : Nat) (h : i < 100) (w : World) :
    Calls Tryd.prog 31 #[.int .i64 i, .int .i64 10] w fun e w' => e = .returned (.string (digits2 i)) ∧ w' = w := by
  have S := Lib.hid (fun u => small_any i h u)
  have h' : (i : Int) < 100 := by omega
  go_enter Tryd.func31, Tryd.ntmps31
  go_wp2_with (go_at_call 32; (with_reducible refine (S.out _).mono ?_); rintro e w' ⟨rfl, rfl⟩)
  go_ret
  exact ⟨rfl, rfl⟩

theorem itoaIn_any (i : Nat) (h : i < 100) (w : World) :
    Calls Tryd.prog 29 #[.int .i64 i] w fun e w' => e = .returned (.string (digits2 i)) ∧ w' = w := by
  have S := Lib.hid (fun u => formatInt_any i h u)
  go_enter Tryd.func29, Tryd.ntmps29
  go_wp2_with (go_at_call 31; (with_reducible refine (S.out _).mono ?_); rintro e w' ⟨rfl, rfl⟩)
  go_ret
  exact ⟨rfl, rfl⟩

theorem itoa_small (i : Nat) (h : i < 100) (w : World) :
    Calls Tryd.prog 26 #[.int .i64 i] w fun e w' => e = .returned (.string (digits2 i)) ∧ w' = w := by
  have S := Lib.hid (fun u => itoaIn_any i h u)
  go_enter Tryd.func26, Tryd.ntmps26
  go_wp2_with (go_at_call 29; (with_reducible refine (S.out _).mono ?_); rintro e w' ⟨rfl, rfl⟩)
  go_ret
  exact ⟨rfl, rfl⟩
end Go.Proofs.YtgeeicgdgncmpaaDoor
