/- The document's chapter 7: Value, Fields, Size of any type. -/
import Derived.Test.YtgeeicgdgncmpaaDoorC8
import Derived.BigGuardPart
import Derived.Deep.RegionWith
import Derived.Deep.DrawnRows
namespace Go.Proofs.YtgeeicgdgncmpaaDoor
open Go.RowKit
set_option linter.unusedVariables false
set_option linter.unusedSimpArgs false

theorem rvalueK_any (k : Int) (w : World) : Calls Tryd.prog 20 #[.int .i64 k] w fun e w' => e = .returned (.bool (isVal k)) ∧ w = w' := by
  by_cases h1 : 1 ≤ k
  · by_cases h2 : k ≤ 6
    · go_enter Tryd.func20, Tryd.ntmps20
      go_wp2
      go_ret
      exact ⟨by simp [isVal, h1, h2], rfl⟩
    · have h2' : decide (k ≤ 6) = false := by simpa using h2
      go_enter Tryd.func20, Tryd.ntmps20
      go_wp2
      go_ret
      exact ⟨by simp [isVal, h1, h2], rfl⟩
  · have h1' : decide (1 ≤ k) = false := by simpa using h1
    go_enter Tryd.func20, Tryd.ntmps20
    go_wp2
    go_ret
    exact ⟨by simp [isVal]; omega, rfl⟩

set_option maxHeartbeats 2000000 in
set_option maxRecDepth 100000 in
theorem rfieldsT_any (k e n : Int) (A : Option Addr) (m c : Nat) (l : List FieldD) (w : World) (hr : Row w w.heap.size 2 A m (fieldRow l)) (hm : m ≤ 1000000) (hml : m = l.length) (hc : m ≤ c) (hcm : c ≤ 9223372036854775807) :
    Calls Tryd.prog 21 #[.agg #[.int .i64 k, .int .i64 e, .int .i64 n, .slice A m c]] w (RowBack w.heap.size 2 (fieldsOf k l).length (fieldRow (fieldsOf k l)) w) := by
  subst hml
  obtain ⟨i0, hi, hz0, hz1, hz2⟩ := info_parts fieldInfo8
  have t27 := fieldTy8
  have HR := Lib.hid hr
  clear hr
  by_cases h8 : k = 8
  · subst h8
    go_enter Tryd.func21, Tryd.ntmps21
    go_wp2_with (at_builtin; go_loud (refine wpList_append_row _ rfl _ _ 29 rfl w.heap.size 39 i0 _ 2 24 t27 hi hz0 hz1 hz2 rfl (by decide) _ 0 [] rfl ?qo w.heap.size A l.length c (fieldRow l) rfl ?qr (flat_one _ fieldCells_one _) ?qc4 ?qc5 ?qc6 ?_))
    case qo =>
      have h := World.ownsRow_made (base := w.heap.size) (e := 39) (size := 2) (w.alloc (.cells #[.int .i64 8, .int .i64 e, .int .i64 n, .slice A l.length c] 31)) #[] 0 (by simp) (Nat.zero_le _) rfl
      have h' : ((w.alloc (.cells #[.int .i64 8, .int .i64 e, .int .i64 n, .slice A l.length c] 31)).alloc (.cells #[] 39)).ownsRow w.heap.size 39 2 (.slice (some ⟨w.heap.size + 1, 0, none⟩) 0 0) 0 [] := by simpa using h
      exact h'
    case qr => first | exact ((HR.out.alloc (Nat.le_refl _) _).alloc (by simp) _) | exact (HR.out.alloc (Nat.le_refl _) _)
    case qc4 => unfold maxLen; omega
    case qc5 => omega
    case qc6 => first | omega | (simp; done) | (simp; omega)
    intro v' w1 hown hgrow hat
    have hb : Below w.heap.size w w1 := (((Below.refl _ w).alloc (Nat.le_refl _) _).alloc (by simp) _).grown hgrow (by simp; omega) (by intro k hk; simp [Value.ownBlock] at hk; omega)
    obtain ⟨R, c', rfl, hcc, hcm'⟩ := own_slice hown
    have HRow := Lib.hid (show Row w1 w1.heap.size 2 R l.length (fieldRow l) by have := Row.of_own hown; simpa using this)
    have HB := Lib.hid hb
    have HC := Lib.hid (show l.length ≤ c' by omega)
    have HM := Lib.hid hcm'
    clear hown hgrow hat hb hcc hcm'
    go_wp2
    go_ret
    exact ⟨⟨R, c', by simp [fieldsOf], HC.out, HM.out, HRow.out⟩, HB.out⟩
  · have h8' : (k == 8) = false := by simpa using h8
    by_cases h9 : k = 9
    · subst h9
      clear h8 h8'
      go_enter Tryd.func21, Tryd.ntmps21
      go_wp2
      go_ret
      refine ⟨⟨_, 6, rfl, by simp [fieldsOf, tonF, ctuF], by omega, ⟨rfl, fun _ => ⟨_, 0, rfl, ?_, ?_⟩⟩⟩, ?_⟩
      · simp
      · intro j u hj
        have hj' : j < 12 := by have := (List.getElem?_eq_some_iff.1 hj).1; simpa [fieldRow, fieldsOf, tonF, fieldCells] using this
        rcases (show j = 0 ∨ j = 1 ∨ j = 2 ∨ j = 3 ∨ j = 4 ∨ j = 5 ∨ j = 6 ∨ j = 7 ∨ j = 8 ∨ j = 9 ∨ j = 10 ∨ j = 11 by omega) with rfl | rfl | rfl | rfl | rfl | rfl | rfl | rfl | rfl | rfl | rfl | rfl <;> (simp [fieldRow, fieldsOf, tonF, fieldCells] at hj; subst hj; go_simp)
      · exact ((Below.refl _ w).alloc (Nat.le_refl _) _).alloc (by simp) _
    · have h9' : (k == 9) = false := by simpa using h9
      by_cases h10 : k = 10
      · subst h10
        clear h8 h8' h9 h9'
        go_enter Tryd.func21, Tryd.ntmps21
        go_wp2
        go_ret
        refine ⟨⟨_, 6, rfl, by simp [fieldsOf, tonF, ctuF], by omega, ⟨rfl, fun _ => ⟨_, 0, rfl, ?_, ?_⟩⟩⟩, ?_⟩
        · simp
        · intro j u hj
          have hj' : j < 12 := by have := (List.getElem?_eq_some_iff.1 hj).1; simpa [fieldRow, fieldsOf, ctuF, fieldCells] using this
          rcases (show j = 0 ∨ j = 1 ∨ j = 2 ∨ j = 3 ∨ j = 4 ∨ j = 5 ∨ j = 6 ∨ j = 7 ∨ j = 8 ∨ j = 9 ∨ j = 10 ∨ j = 11 by omega) with rfl | rfl | rfl | rfl | rfl | rfl | rfl | rfl | rfl | rfl | rfl | rfl <;> (simp [fieldRow, fieldsOf, ctuF, fieldCells] at hj; subst hj; go_simp)
        · exact ((Below.refl _ w).alloc (Nat.le_refl _) _).alloc (by simp) _
      · have h10' : (k == 10) = false := by simpa using h10
        rw [show fieldsOf k l = [] by simp [fieldsOf, h8, h9, h10]]
        go_enter Tryd.func21, Tryd.ntmps21
        go_wp2
        go_ret
        exact ⟨⟨none, 0, rfl, Nat.le_refl _, by omega, Row.nil⟩, (Below.refl _ w).alloc (Nat.le_refl _) _⟩

set_option maxHeartbeats 2000000 in
theorem rsizeT_any (k e n : Int) (A : Option Addr) (m c : Nat) (l : List FieldD) (w : World) (hr : Row w w.heap.size 2 A m (fieldRow l)) (hm : m ≤ 1000000) (hml : m = l.length) (hc : m ≤ c) (hcm : c ≤ 9223372036854775807) :
    Calls Tryd.prog 9 #[.agg #[.int .i64 k, .int .i64 e, .int .i64 n, .slice A m c]] w fun e' w' => e' = .returned (.int .i64 (sizeOf8 k n l)) ∧ Below w.heap.size w w' := by
  by_cases hv : 1 ≤ k ∧ k ≤ 6
  · have hv' : isVal k = true := by simp [isVal, hv]
    have V := Lib.hid (fun u => rvalueK_any k u)
    rw [hv'] at V
    rw [show sizeOf8 k n l = 1 by simp [sizeOf8, hv]]
    clear hr hv'
    go_enter Tryd.func9, Tryd.ntmps9
    go_wp2_with fail
    refine (V.out _).mono ?_
    rintro e _ ⟨rfl, rfl⟩
    go_wp2
    go_ret
    exact ⟨rfl, (Below.refl _ w).alloc (Nat.le_refl _) _⟩
  · have hv' : isVal k = false := by
      simp only [isVal, Bool.and_eq_false_iff, decide_eq_false_iff_not]
      omega
    have V := Lib.hid (fun u => rvalueK_any k u)
    rw [hv'] at V
    by_cases h7 : k = 7
    · subst h7
      clear hr hv' hv
      go_enter Tryd.func9, Tryd.ntmps9
      go_wp2_with fail
      refine (V.out _).mono ?_
      rintro e _ ⟨rfl, rfl⟩
      go_wp2
      go_ret
      exact ⟨rfl, (Below.refl _ w).alloc (Nat.le_refl _) _⟩
    · have h7' : (k == 7) = false := by simpa using h7
      have F := Lib.hid (fun u (h : Row u u.heap.size 2 A m (fieldRow l)) => rfieldsT_any k e n A m c l u h hm hml hc hcm)
      rw [show sizeOf8 k n l = (fieldsOf k l).length by simp [sizeOf8, hv, h7]]
      have HR := Lib.hid hr
      clear hr hv' hv hml
      go_enter Tryd.func9, Tryd.ntmps9
      go_wp2_with fail
      refine (V.out _).mono ?_
      rintro e _ ⟨rfl, rfl⟩
      go_wp2_with fail
      refine (F.out _ ((HR.out.alloc (Nat.le_refl _) _).more (by simp))).mono ?_
      rintro e w1 ⟨⟨R, c', rfl, hcc, hcm', hrow⟩, hb⟩
      have HB := Lib.hid hb
      clear hb hrow hcc hcm'
      go_wp2
      go_ret
      exact ⟨rfl, ((Below.refl _ w).alloc (Nat.le_refl _) _).trans (HB.out.mono (by simp))⟩

theorem below_dN {B : Nat} {a w : World} (n : Nat) (h : Below B a w) : Below B a (w.drewN n) := h.trans ⟨rfl, rfl, rfl, Nat.le_refl _, fun _ _ => rfl⟩
theorem str_one (b : UInt8) : strOfNums [(b.toNat : Int)] = { data := #[b] } := by
  simp [strOfNums]
theorem digit_str (i : Nat) (h : i < 10) : strOfNums [48 + (i : Int)] = digits2 i := by
  have h2 : (48 + (i : Int)) = ((UInt8.ofNat (48 + i)).toNat : Int) := by simp; omega
  rw [h2, str_one, digits2, if_pos h]

set_option maxHeartbeats 2000000 in
set_option maxRecDepth 100000 in
/-- One digit. -/
theorem rdigits_one (i : Nat) (h : i < 10) (w : World) : Calls Tryd.prog 27 #[.int .i64 i] w fun e w' => e = .returned (.string (digits2 i)) ∧ Below w.heap.size w w' := by
  have h' : decide ((10 : Int) ≤ i) = false := by simp; omega
  have hs := digit_str i h
  have cv := run_convert_bytes_arg (P := Tryd.prog) (w.alloc (.cells #[.int .u8 (48 + (i : Int))] 5)) 40 5 Tryd.underlying40 Tryd.underlying5 w.heap.size 0 1 1 [48 + (i : Int)] rfl (fun j hj => by
    obtain rfl : j = 0 := by omega
    go_simp) 9 Tryd.underlying9
  rw [hs] at cv
  generalize digits2 i = D at *
  clear hs
  go_enter Tryd.func27, Tryd.ntmps27
  go_wp2
  go_ret
  exact ⟨rfl, (Below.refl _ _).alloc (Nat.le_refl _) _⟩
set_option maxHeartbeats 2000000 in
set_option maxRecDepth 100000 in
/-- A number's digits, from 0 to 99. -/
theorem rdigits_any (i : Nat) (h : i < 100) (w : World) : Calls Tryd.prog 27 #[.int .i64 i] w fun e w' => e = .returned (.string (digits2 i)) ∧ Below w.heap.size w w' := by
  by_cases h10 : i < 10
  · exact rdigits_one i h10 w
  · have h' : decide ((10 : Int) ≤ i) = true := by simp; omega
    have e1 : (i : Int) / 10 = ((i / 10 : Nat) : Int) := by omega
    have e2 : (i : Int) % 10 = ((i % 10 : Nat) : Int) := by omega
    have A := fun u => rdigits_one (i / 10) (by omega) u
    have B := fun u => rdigits_one (i % 10) (by omega) u
    have hd : digits2 (i / 10) ++ digits2 (i % 10) = digits2 i := by
      have h1 : i / 10 < 10 := by omega
      have h2 : i % 10 < 10 := by omega
      simp only [digits2, if_pos h1, if_pos h2, if_neg h10]
      rfl
    have s1 := digits2_size (i / 10)
    have s2 := digits2_size (i % 10)
    rw [← hd]
    rw [← e1] at A
    rw [← e2] at B
    have HA := Lib.hid A
    have HB := Lib.hid B
    clear A B hd e1 e2
    generalize digits2 (i / 10) = P at *
    generalize digits2 (i % 10) = Q at *
    go_enter Tryd.func27, Tryd.ntmps27
    go_wp2_with fail
    refine (HA.out _).mono ?_
    rintro e u1 ⟨rfl, hb1⟩
    have HB1 := Lib.hid hb1
    clear hb1
    go_wp2_with fail
    refine (HB.out _).mono ?_
    rintro e u2 ⟨rfl, hb2⟩
    have HB2 := Lib.hid hb2
    clear hb2
    go_wp2
    go_ret
    exact ⟨rfl, HB1.out.trans (HB2.out.mono HB1.out.size)⟩
end Go.Proofs.YtgeeicgdgncmpaaDoor
