/- Texts of A8, Itoa, B8, C8, D8, RA8, RB8, in one. -/
import Derived.Test.YtngobbbinacomaaDoorQ02
import Derived.Test.YtngobbbinacomaaDoorRows
import Derived.WalkKit
import Derived.Deep.DrawnRows
import Derived.Lib.Hide
import Derived.Lib.SliceRun
import Derived.Lib.ItoaNum
import Derived.Lib.Strings
import Derived.Lib.ItoaWalk
import Derived.BigGuardPart
import Derived.Deep.QuietTactic
import Derived.BigQuiet
import Derived.Deep.DeepCutAuto
import Derived.Deep.CutBlock
import Derived.Deep.RegionHeld3
import Derived.WalkLawsBesides
import Derived.Outline
import Derived.Deep.RegionWith
/- Fields and sizes of types, as they are computed: kinds.Fields, kinds.Size of any type. -/
namespace Go.Proofs.YtngobbbinacomaaDoor
open Go.RowKit
set_option linter.unusedVariables false
set_option linter.unusedSimpArgs false
theorem qret {k : IntKind} {a b : Int} (h : a = b) : Ending.returned (.int k a) = .returned (.int k b) := by rw [h]
/-- A row of equal pieces. -/
theorem flat_get {α : Type} (f : α → List Value) (n : Nat) (hf : ∀ x, (f x).length = n) : ∀ (l : List α) (i j : Nat) (x : α), l[i]? = some x → j < n → (l.flatMap f)[i * n + j]? = (f x)[j]? := by
  intro l
  induction l with
  | nil => intro i j x h; simp at h
  | cons y l ih =>
    intro i j x h hj
    rw [List.flatMap_cons]
    cases i with
    | zero =>
      simp at h
      subst h
      rw [Nat.zero_mul, Nat.zero_add, List.getElem?_append_left (by rw [hf]; exact hj)]
    | succ i =>
      simp at h
      rw [List.getElem?_append_right (by rw [hf, Nat.succ_mul]; omega), hf]
      have e : (i + 1) * n + j - n = i * n + j := by rw [Nat.succ_mul]; omega
      rw [e]
      exact ih i j x h hj
theorem flat_length {α : Type} (f : α → List Value) (n : Nat) (hf : ∀ x, (f x).length = n) (l : List α) : (l.flatMap f).length = l.length * n := by
  induction l with
  | nil => simp
  | cons y l ih => rw [List.flatMap_cons, List.length_append, hf, ih, List.length_cons, Nat.succ_mul, Nat.add_comm]
theorem flat_one {α : Type} (f : α → List Value) (hf : ∀ x, ∀ u ∈ f x, u.oneCell' = true) (l : List α) : ∀ u ∈ l.flatMap f, u.oneCell' = true := by
  intro u hu
  obtain ⟨x, _, hx⟩ := List.mem_flatMap.1 hu
  exact hf x u hx
structure FieldD where
  name : ByteArray
  kind : Int
def fieldCells (f : FieldD) : List Value := [.string f.name, .int .i64 f.kind]
def fieldRow (l : List FieldD) : List Value := l.flatMap fieldCells
theorem fieldCells_length (f : FieldD) : (fieldCells f).length = 2 := rfl
theorem fieldCells_one (f : FieldD) : ∀ u ∈ fieldCells f, u.oneCell' = true := by
  intro u hu; simp [fieldCells] at hu; rcases hu with rfl | rfl <;> rfl
def tonF : List FieldD := [⟨{ data := #[73, 78] }, 1⟩, ⟨{ data := #[80, 84] }, 6⟩, ⟨{ data := #[81] }, 1⟩, ⟨{ data := #[69, 84] }, 6⟩, ⟨{ data := #[84, 48] }, 6⟩, ⟨{ data := #[82, 85, 78] }, 1⟩]
def ctuF : List FieldD := [⟨{ data := #[67, 85] }, 1⟩, ⟨{ data := #[82] }, 1⟩, ⟨{ data := #[80, 86] }, 5⟩, ⟨{ data := #[81] }, 1⟩, ⟨{ data := #[67, 86] }, 5⟩, ⟨{ data := #[79, 76, 68] }, 1⟩]
/-- The fields that a type has: its own, a timer's, a counter's. -/
def fieldsOf (k : Int) (l : List FieldD) : List FieldD := if k = 8 then l else if k = 9 then tonF else if k = 10 then ctuF else []
/-- How many cells. -/
def sizeOf8 (k n : Int) (l : List FieldD) : Int := if 1 ≤ k ∧ k ≤ 6 then 1 else if k = 7 then n else (fieldsOf k l).length
theorem fieldInfo8 : (Tryd.prog.info? 113).map (fun i => (i.zero, i.size, i.bytes)) = some (some (.agg #[.string { data := #[] }, .int .i64 0]), 2, 24) := by kernel_rfl
theorem fieldTy8 : Tryd.prog.underlying 48 = some (.slice 113) := by kernel_rfl
/-- What a call that makes a row of fields tells. -/
def RowBack (B size : Nat) (n : Nat) (xs : List Value) (w : World) (e : Ending) (w' : World) : Prop :=
  (∃ R c, e = .returned (.slice R n c) ∧ n ≤ c ∧ c ≤ 9223372036854775807 ∧ Row w' w'.heap.size size R n xs) ∧ Below B w w'
set_option maxHeartbeats 1000000 in
theorem cloneF_any (A : Option Addr) (n c : Nat) (xs : List Value) (w : World) (hr : Row w w.heap.size 2 A n xs) (h1 : ∀ u ∈ xs, u.oneCell' = true) (hn : n ≤ 1000000) (hc : n ≤ c) (hcm : c ≤ 9223372036854775807) :
    Calls Tryd.prog 93 #[.slice A n c] w (RowBack w.heap.size 2 n xs w) := by
  obtain ⟨i0, hi, hz0, hz1, hz2⟩ := info_parts fieldInfo8
  have t27 := fieldTy8
  have q27 : ∀ (w : World) (a : Option Addr) (n c n' c' : Nat), (binOp .eql 48 (.slice a n c) (.slice none n' c')).run Tryd.prog w = .ok (.bool a.isNone) w := fun w a n c n' c' => Lib.run_eql_slice_nil w _ _ a n c n' c' t27
  have HR := Lib.hid hr
  have H1 := Lib.hid h1
  rcases A with _ | a
  · have hn0 : n = 0 := by
      rcases Nat.eq_zero_or_pos n with h | h
      · exact h
      · obtain ⟨_, _, h', _⟩ := hr.2 h; cases h'
    have hx : xs = [] := List.eq_nil_of_length_eq_zero (by rw [hr.1, hn0])
    clear hr h1
    subst hn0 hx
    go_enter Tryd.func93, Tryd.ntmps93
    go_wp2
    go_ret
    exact ⟨⟨none, 0, rfl, Nat.le_refl _, by omega, Row.nil⟩, Below.refl _ _⟩
  · clear hr h1
    go_enter Tryd.func93, Tryd.ntmps93
    go_wp2_with (at_builtin; refine wpList_append_row _ rfl _ _ 48 rfl w.heap.size 113 i0 _ 2 24 t27 hi hz0 hz1 hz2 rfl (by decide) _ _ _ rfl (World.ownsRow_made w #[] 0 (Nat.le_refl _) (Nat.zero_le _) rfl) w.heap.size (some a) n c xs rfl (HR.out.alloc (Nat.le_refl _) _) H1.out ?qc4 ?qc5 ?qc6 ?_)
    case qc4 => unfold maxLen; omega
    case qc5 => omega
    case qc6 => simp
    intro v' w1 hown hgrow hat
    have hb : Below w.heap.size w w1 := ((Below.refl _ w).alloc (Nat.le_refl _) _).grown hgrow (by simp) (by intro k hk; simp [Value.ownBlock] at hk; omega)
    obtain ⟨R, c', rfl, hcc, hcm'⟩ := own_slice hown
    have HRow := Lib.hid (show Row w1 w1.heap.size 2 R n xs by have := Row.of_own hown; simpa using this)
    have HB := Lib.hid hb
    have HC := Lib.hid (show n ≤ c' by omega)
    have HM := Lib.hid hcm'
    clear hown hgrow hat hb hcc hcm'
    go_wp2
    go_ret
    exact ⟨⟨R, c', by simp, HC.out, HM.out, HRow.out⟩, HB.out⟩
set_option maxHeartbeats 1000000 in
theorem rowF_any (A : Option Addr) (n c : Nat) (xs : List Value) (w : World) (hr : Row w w.heap.size 2 A n xs) (h1 : ∀ u ∈ xs, u.oneCell' = true) (hn : n ≤ 1000000) (hc : n ≤ c) (hcm : c ≤ 9223372036854775807) :
    Calls Tryd.prog 84 #[.slice A n c] w (RowBack w.heap.size 2 n xs w) := by
  have C := Lib.hid (cloneF_any A n c xs w hr h1 hn hc hcm)
  clear hr h1
  go_enter Tryd.func84, Tryd.ntmps84
  go_wp2_with fail
  refine C.out.mono ?_
  rintro e w1 ⟨⟨R, c', rfl, hcc, hcm', hrow⟩, hb⟩
  have HB := Lib.hid hb
  have HR := Lib.hid hrow
  have HC := Lib.hid hcc
  have HM := Lib.hid hcm'
  clear hb hrow hcc hcm'
  go_wp2
  go_ret
  exact ⟨⟨R, c', rfl, HC.out, HM.out, HR.out⟩, HB.out⟩
set_option maxHeartbeats 2000000 in
theorem fieldsT_any (k e n : Int) (A : Option Addr) (m c : Nat) (l : List FieldD) (w : World) (hr : Row w w.heap.size 2 A m (fieldRow l)) (hm : m ≤ 1000000) (hml : m = l.length) (hc : m ≤ c) (hcm : c ≤ 9223372036854775807) :
    Calls Tryd.prog 71 #[.agg #[.int .i64 k, .int .i64 e, .int .i64 n, .slice A m c]] w (RowBack w.heap.size 2 (fieldsOf k l).length (fieldRow (fieldsOf k l)) w) := by
  subst hml
  by_cases h8 : k = 8
  · subst h8
    have C := Lib.hid (fun u (h : Row u u.heap.size 2 A l.length (fieldRow l)) => rowF_any A l.length c (fieldRow l) u h (flat_one _ fieldCells_one _) hm hc hcm)
    have HR := Lib.hid hr
    clear hr
    go_enter Tryd.func71, Tryd.ntmps71
    go_wp2_with fail
    refine (C.out _ ((HR.out.alloc (Nat.le_refl _) _).more (by simp))).mono ?_
    rintro e w1 ⟨⟨R, c', rfl, hcc, hcm', hrow⟩, hb⟩
    have HB := Lib.hid hb
    have HR := Lib.hid hrow
    have HC := Lib.hid hcc
    have HM := Lib.hid hcm'
    clear hb hrow hcc hcm'
    go_wp2
    go_ret
    refine ⟨⟨R, c', rfl, HC.out, HM.out, HR.out⟩, ?_⟩
    exact ((Below.refl _ w).alloc (Nat.le_refl _) _).trans (HB.out.mono (by simp))
  · have h8' : (k == 8) = false := by simpa using h8
    clear hr
    by_cases h9 : k = 9
    · subst h9
      clear h8 h8'
      go_enter Tryd.func71, Tryd.ntmps71
      go_wp2_with fail
      refine (rowF_any _ 6 6 (fieldRow tonF) _ ⟨rfl, fun _ => ⟨_, 0, rfl, ?_, ?_⟩⟩ (flat_one _ fieldCells_one _) (by omega) (by omega) (by omega)).mono ?_
      · simp
      · intro j u hj
        have hj' : j < 12 := by have := (List.getElem?_eq_some_iff.1 hj).1; simpa [fieldRow, tonF, fieldCells] using this
        rcases (show j = 0 ∨ j = 1 ∨ j = 2 ∨ j = 3 ∨ j = 4 ∨ j = 5 ∨ j = 6 ∨ j = 7 ∨ j = 8 ∨ j = 9 ∨ j = 10 ∨ j = 11 by omega) with rfl | rfl | rfl | rfl | rfl | rfl | rfl | rfl | rfl | rfl | rfl | rfl <;> (simp [fieldRow, tonF, fieldCells] at hj; subst hj; go_simp)
      rintro e w1 ⟨⟨R, c', rfl, hcc, hcm', hrow⟩, hb⟩
      have HB := Lib.hid hb
      have HR := Lib.hid hrow
      have HC := Lib.hid hcc
      have HM := Lib.hid hcm'
      clear hb hrow hcc hcm'
      go_wp2
      go_ret
      refine ⟨⟨R, c', rfl, HC.out, HM.out, HR.out⟩, ?_⟩
      exact (((Below.refl _ w).alloc (Nat.le_refl _) _).alloc (by simp) _).trans (HB.out.mono (by simp; omega))
    · have h9' : (k == 9) = false := by simpa using h9
      by_cases h10 : k = 10
      · subst h10
        clear h8 h8' h9 h9'
        go_enter Tryd.func71, Tryd.ntmps71
        go_wp2_with fail
        refine (rowF_any _ 6 6 (fieldRow ctuF) _ ⟨rfl, fun _ => ⟨_, 0, rfl, ?_, ?_⟩⟩ (flat_one _ fieldCells_one _) (by omega) (by omega) (by omega)).mono ?_
        · simp
        · intro j u hj
          have hj' : j < 12 := by have := (List.getElem?_eq_some_iff.1 hj).1; simpa [fieldRow, ctuF, fieldCells] using this
          rcases (show j = 0 ∨ j = 1 ∨ j = 2 ∨ j = 3 ∨ j = 4 ∨ j = 5 ∨ j = 6 ∨ j = 7 ∨ j = 8 ∨ j = 9 ∨ j = 10 ∨ j = 11 by omega) with rfl | rfl | rfl | rfl | rfl | rfl | rfl | rfl | rfl | rfl | rfl | rfl <;> (simp [fieldRow, ctuF, fieldCells] at hj; subst hj; go_simp)
        rintro e w1 ⟨⟨R, c', rfl, hcc, hcm', hrow⟩, hb⟩
        have HB := Lib.hid hb
        have HR := Lib.hid hrow
        have HC := Lib.hid hcc
        have HM := Lib.hid hcm'
        clear hb hrow hcc hcm'
        go_wp2
        go_ret
        refine ⟨⟨R, c', rfl, HC.out, HM.out, HR.out⟩, ?_⟩
        exact (((Below.refl _ w).alloc (Nat.le_refl _) _).alloc (by simp) _).trans (HB.out.mono (by simp; omega))
      · have h10' : (k == 10) = false := by simpa using h10
        rw [show fieldsOf k l = [] by simp [fieldsOf, h8, h9, h10]]
        go_enter Tryd.func71, Tryd.ntmps71
        go_wp2
        go_ret
        exact ⟨⟨none, 0, rfl, Nat.le_refl _, by omega, Row.nil⟩, (Below.refl _ w).alloc (Nat.le_refl _) _⟩
/-- Is it a kind of values? -/
def isVal (k : Int) : Bool := decide (1 ≤ k) && decide (k ≤ 6)
theorem valueK_any (k : Int) (w : World) : Calls Tryd.prog 70 #[.int .i64 k] w fun e w' => e = .returned (.bool (isVal k)) ∧ w = w' := by
  by_cases h1 : 1 ≤ k
  · by_cases h2 : k ≤ 6
    · go_enter Tryd.func70, Tryd.ntmps70
      go_wp2
      go_ret
      exact ⟨by simp [isVal, h1, h2], rfl⟩
    · have h2' : decide (k ≤ 6) = false := by simpa using h2
      go_enter Tryd.func70, Tryd.ntmps70
      go_wp2
      go_ret
      exact ⟨by simp [isVal, h1, h2], rfl⟩
  · have h1' : decide (1 ≤ k) = false := by simpa using h1
    go_enter Tryd.func70, Tryd.ntmps70
    go_wp2
    go_ret
    exact ⟨by simp [isVal]; omega, rfl⟩
set_option maxHeartbeats 2000000 in
theorem sizeT_any (k e n : Int) (A : Option Addr) (m c : Nat) (l : List FieldD) (w : World) (hr : Row w w.heap.size 2 A m (fieldRow l)) (hm : m ≤ 1000000) (hml : m = l.length) (hc : m ≤ c) (hcm : c ≤ 9223372036854775807) :
    Calls Tryd.prog 50 #[.agg #[.int .i64 k, .int .i64 e, .int .i64 n, .slice A m c]] w fun e' w' => e' = .returned (.int .i64 (sizeOf8 k n l)) ∧ Below w.heap.size w w' := by
  by_cases hv : 1 ≤ k ∧ k ≤ 6
  · have hv' : isVal k = true := by simp [isVal, hv]
    have V := Lib.hid (fun u => valueK_any k u)
    rw [hv'] at V
    rw [show sizeOf8 k n l = 1 by simp [sizeOf8, hv]]
    clear hr hv'
    go_enter Tryd.func50, Tryd.ntmps50
    go_wp2_with fail
    refine (V.out _).mono ?_
    rintro e _ ⟨rfl, rfl⟩
    go_wp2
    go_ret
    exact ⟨rfl, (Below.refl _ w).alloc (Nat.le_refl _) _⟩
  · have hv' : isVal k = false := by
      simp only [isVal, Bool.and_eq_false_iff, decide_eq_false_iff_not]
      omega
    have V := Lib.hid (fun u => valueK_any k u)
    rw [hv'] at V
    by_cases h7 : k = 7
    · subst h7
      clear hr hv' hv
      go_enter Tryd.func50, Tryd.ntmps50
      go_wp2_with fail
      refine (V.out _).mono ?_
      rintro e _ ⟨rfl, rfl⟩
      go_wp2
      go_ret
      exact ⟨rfl, (Below.refl _ w).alloc (Nat.le_refl _) _⟩
    · have h7' : (k == 7) = false := by simpa using h7
      have F := Lib.hid (fun u (h : Row u u.heap.size 2 A m (fieldRow l)) => fieldsT_any k e n A m c l u h hm hml hc hcm)
      rw [show sizeOf8 k n l = (fieldsOf k l).length by simp [sizeOf8, hv, h7]]
      have HR := Lib.hid hr
      clear hr hv' hv hml
      go_enter Tryd.func50, Tryd.ntmps50
      go_wp2_with fail
      refine (V.out _).mono ?_
      rintro e _ ⟨rfl, rfl⟩
      go_wp2_with fail
      refine (F.out _ ((HR.out.alloc (Nat.le_refl _) _).more (by simp))).mono ?_
      rintro e w1 ⟨⟨R, c', rfl, hcc, hcm', hrow⟩, hb⟩
      have HB := Lib.hid hb
      clear hb hrow hcc hcm'
      go_wp2
      go_ret
      exact ⟨rfl, ((Below.refl _ w).alloc (Nat.le_refl _) _).trans (HB.out.mono (by simp))⟩
end Go.Proofs.YtngobbbinacomaaDoor
/- strconv.Itoa at 0 .. 99: one digit, or two. -/
namespace Go.Proofs.YtngobbbinacomaaDoor
open Go.RowKit Go.Lib
set_option linter.unusedVariables false
/-- A number's digits, from 0 to 99. -/
def digits2 (i : Nat) : ByteArray := if i < 10 then { data := #[UInt8.ofNat (48 + i)] } else { data := #[UInt8.ofNat (48 + i / 10), UInt8.ofNat (48 + i % 10)] }
theorem digits2_size (i : Nat) : (digits2 i).size ≤ 2 := by
  unfold digits2
  split
  · show 1 ≤ 2; omega
  · show 2 ≤ 2; omega
theorem decDigits_two {i : Nat} (h : i < 100) : (⟨(Lib.decDigits i).toArray⟩ : ByteArray) = digits2 i := by
  unfold digits2
  by_cases h10 : i < 10
  · rw [if_pos h10, Lib.decDigits, dif_pos h10]
  · rw [if_neg h10, Lib.decDigits, dif_neg h10, Lib.decDigits, dif_pos (by omega)]
    rfl
theorem bytes_list (x : ByteArray) (l : List UInt8) (h : x.data.toList = l) : x = ⟨l.toArray⟩ := by
  subst h
  cases x
  simp
set_option maxHeartbeats 2000000 in
set_option maxRecDepth 100000 in
theorem small_any (i : Nat) (h : i < 100) (w : World) :
    Calls Tryd.prog 100 #[.int .i64 i] w fun e w' => e = .returned (.string (digits2 i)) ∧ w' = w := by
  rw [← decDigits_two h]
  have t9 := Tryd.underlying9
  go_enter Tryd.func100, Tryd.ntmps100
  go_name_bytes_deep 45 SM hSM
  have eSM : SM = Lib.smalls := by rw [← hSM]; decide +kernel
  subst eSM
  clear hSM
  go_name_bytes_deep 30 DG hDG
  have eDG : DG = Lib.digits36 := by rw [← hDG]; decide +kernel
  subst eDG
  clear hDG
  by_cases h10 : i < 10
  · have hsl : ∀ w, (Instr.slice 9 (.string Lib.digits36) (some (.int .i64 (i : Int))) (some (.int .i64 ((i : Int) + 1))) none).run Tryd.prog w = .ok (.string (Lib.digits36.extract i (i + 1))) w := fun w => by
      rw [run_slice_string w 9 Lib.digits36 .i64 .i64 _ _ t9 (by omega) (by omega) (by rw [Lib.digits36_size]; omega), show ((i : Int)).toNat = i by omega, show ((i : Int) + 1).toNat = i + 1 by omega]
    go_wp2
    go_ret
    refine ⟨?_, rfl⟩
    show Ending.returned (Value.string (Lib.digits36.extract i (i + 1))) = _
    rw [bytes_list (Lib.digits36.extract i (i + 1)) (Lib.decDigits i) (by rw [Lib.extract_data]; exact Lib.digits36_piece h10)]
  · have hsl : ∀ w, (Instr.slice 9 (.string Lib.smalls) (some (.int .i64 ((i : Int) * 2))) (some (.int .i64 ((i : Int) * 2 + 2))) none).run Tryd.prog w = .ok (.string (Lib.smalls.extract (i * 2) (i * 2 + 2))) w := fun w => by
      rw [run_slice_string w 9 Lib.smalls .i64 .i64 _ _ t9 (by omega) (by omega) (by rw [Lib.smalls_size]; omega), show ((i : Int) * 2).toNat = i * 2 by omega, show ((i : Int) * 2 + 2).toNat = i * 2 + 2 by omega]
    go_wp2
    go_ret
    refine ⟨?_, rfl⟩
    show Ending.returned (Value.string (Lib.smalls.extract (i * 2) (i * 2 + 2))) = _
    rw [bytes_list (Lib.smalls.extract (i * 2) (i * 2 + 2)) (Lib.decDigits i) (by rw [Lib.extract_data]; exact Lib.smalls_piece h10 h)]
set_option maxHeartbeats 2000000 in
theorem formatInt_any (i : Nat) (h : i < 100) (w : World) :
    Calls Tryd.prog 94 #[.int .i64 i, .int .i64 10] w fun e w' => e = .returned (.string (digits2 i)) ∧ w' = w := by
  have S := Lib.hid (fun u => small_any i h u)
  have h' : (i : Int) < 100 := by omega
  go_enter Tryd.func94, Tryd.ntmps94
  go_wp2_with (go_at_call 100; (with_reducible refine (S.out _).mono ?_); rintro e w' ⟨rfl, rfl⟩)
  go_ret
  exact ⟨rfl, rfl⟩
theorem itoaIn_any (i : Nat) (h : i < 100) (w : World) :
    Calls Tryd.prog 85 #[.int .i64 i] w fun e w' => e = .returned (.string (digits2 i)) ∧ w' = w := by
  have S := Lib.hid (fun u => formatInt_any i h u)
  go_enter Tryd.func85, Tryd.ntmps85
  go_wp2_with (go_at_call 94; (with_reducible refine (S.out _).mono ?_); rintro e w' ⟨rfl, rfl⟩)
  go_ret
  exact ⟨rfl, rfl⟩
theorem itoa_small (i : Nat) (h : i < 100) (w : World) :
    Calls Tryd.prog 72 #[.int .i64 i] w fun e w' => e = .returned (.string (digits2 i)) ∧ w' = w := by
  have S := Lib.hid (fun u => itoaIn_any i h u)
  go_enter Tryd.func72, Tryd.ntmps72
  go_wp2_with (go_at_call 85; (with_reducible refine (S.out _).mono ?_); rintro e w' ⟨rfl, rfl⟩)
  go_ret
  exact ⟨rfl, rfl⟩
end Go.Proofs.YtngobbbinacomaaDoor
/- The kind and the path of a variable's cell. -/
namespace Go.Proofs.YtngobbbinacomaaDoor
open Go.RowKit
set_option linter.unusedVariables false
set_option linter.unusedSimpArgs false
theorem dcell {W w1 : World} {B : Nat} (hb : Below B W w1) {b : Nat} (h : b < B) (o : Nat) : w1.cell? ⟨b, o, none⟩ = W.cell? ⟨b, o, none⟩ := hb.cell (p := ⟨b, o, none⟩) h
def kindOf (k e : Int) (l : List FieldD) (i : Nat) : Int := if k = 7 then e else match (fieldsOf k l)[i]? with | some f => f.kind | none => k
def pathOf (nm : ByteArray) (k : Int) (l : List FieldD) (i : Nat) : ByteArray :=
  if k = 7 then nm ++ { data := #[91] } ++ digits2 i ++ { data := #[93] } else match (fieldsOf k l)[i]? with | some f => nm ++ { data := #[46] } ++ f.name | none => nm
theorem fieldsOf_size {k : Int} {l : List FieldD} (h : ∀ f ∈ l, f.name.size ≤ 1000000) : ∀ f ∈ fieldsOf k l, f.name.size ≤ 1000000 := by
  intro f hf
  unfold fieldsOf at hf
  split at hf
  · exact h f hf
  · split at hf
    · simp only [tonF, List.mem_cons, List.not_mem_nil, or_false] at hf
      rcases hf with rfl | rfl | rfl | rfl | rfl | rfl <;> decide
    · split at hf
      · simp only [ctuF, List.mem_cons, List.not_mem_nil, or_false] at hf
        rcases hf with rfl | rfl | rfl | rfl | rfl | rfl <;> decide
      · simp at hf
theorem fieldsOf_len {k : Int} {l : List FieldD} (h : l.length ≤ 1000000) : (fieldsOf k l).length ≤ 1000000 := by
  unfold fieldsOf
  split
  · exact h
  · split
    · decide
    · split <;> decide
set_option maxHeartbeats 2000000 in
theorem kind_any (k e n : Int) (A : Option Addr) (m c : Nat) (l : List FieldD) (i : Nat) (w : World) (hr : Row w w.heap.size 2 A m (fieldRow l)) (hm : m ≤ 1000000) (hml : m = l.length) (hc : m ≤ c) (hcm : c ≤ 9223372036854775807) (hi : i ≤ 1000000) :
    Calls Tryd.prog 52 #[.agg #[.int .i64 k, .int .i64 e, .int .i64 n, .slice A m c], .int .i64 i] w fun e' w' => e' = .returned (.int .i64 (kindOf k e l i)) ∧ Below w.heap.size w w' := by
  have F := Lib.hid (fun u (h : Row u u.heap.size 2 A m (fieldRow l)) => fieldsT_any k e n A m c l u h hm hml hc hcm)
  have HR := Lib.hid hr
  have hlen := fieldsOf_len (k := k) (hml ▸ hm)
  have HLEN := Lib.hid hlen
  clear hr hml hlen
  by_cases h7 : k = 7
  · subst h7
    rw [show kindOf 7 e l i = e by simp [kindOf]]
    go_enter Tryd.func52, Tryd.ntmps52
    go_wp2_with fail
    refine (F.out _ ((HR.out.alloc (Nat.le_refl _) _).more (by simp))).mono ?_
    rintro e' w1 ⟨⟨R, c', rfl, hcc, hcm', hrow⟩, hb⟩
    have k0 : w1.cell? ⟨w.heap.size, 0, none⟩ = some (.int .i64 7) := (dcell hb (by simp) 0).trans (by go_simp)
    have k1 : w1.cell? ⟨w.heap.size, 1, none⟩ = some (.int .i64 e) := (dcell hb (by simp) 1).trans (by go_simp)
    have HB := Lib.hid hb
    clear hb hrow hcc hcm'
    go_wp2
    go_ret
    exact ⟨rfl, ((Below.refl _ w).alloc (Nat.le_refl _) _).trans (HB.out.mono (by simp))⟩
  · have h7' : (k == 7) = false := by simpa using h7
    have HK : Hid (kindOf k e l i = match (fieldsOf k l)[i]? with | some f => f.kind | none => k) := Lib.hid (by simp [kindOf, h7])
    generalize kindOf k e l i = q at *
    generalize fieldsOf k l = fs at *
    by_cases hlt : i < fs.length
    · obtain ⟨f, hf⟩ : ∃ f, fs[i]? = some f := ⟨_, List.getElem?_eq_getElem hlt⟩
      have hq : q = f.kind := by rw [HK.out, hf]
      have HF := Lib.hid hf
      subst hq
      clear hf
      go_enter Tryd.func52, Tryd.ntmps52
      go_wp2_with fail
      refine (F.out _ ((HR.out.alloc (Nat.le_refl _) _).more (by simp))).mono ?_
      rintro e' w1 ⟨⟨R, c', rfl, hcc, hcm', hrow⟩, hb⟩
      have k0 : w1.cell? ⟨w.heap.size, 0, none⟩ = some (.int .i64 k) := (dcell hb (by simp) 0).trans (by go_simp)
      obtain ⟨b, off, rfl, _, hcell⟩ := hrow.2 (by omega)
      have hx : w1.cell? ⟨b, off + i * 2 + 1, none⟩ = some (.int .i64 f.kind) := by
        have h := hcell (i * 2 + 1) (.int .i64 f.kind) ((flat_get fieldCells 2 fieldCells_length fs i 1 f HF.out (by omega)).trans rfl)
        rw [← Nat.add_assoc] at h
        exact h
      have HB := Lib.hid hb
      clear hb hrow hcell
      go_wp2
      go_ret
      exact ⟨rfl, ((Below.refl _ w).alloc (Nat.le_refl _) _).trans (HB.out.mono (by simp))⟩
    · have hq : q = k := by rw [HK.out, List.getElem?_eq_none (by omega)]
      subst hq
      go_enter Tryd.func52, Tryd.ntmps52
      go_wp2_with fail
      refine (F.out _ ((HR.out.alloc (Nat.le_refl _) _).more (by simp))).mono ?_
      rintro e' w1 ⟨⟨R, c', rfl, hcc, hcm', hrow⟩, hb⟩
      have k0 : w1.cell? ⟨w.heap.size, 0, none⟩ = some (.int .i64 q) := (dcell hb (by simp) 0).trans (by go_simp)
      have HB := Lib.hid hb
      clear hb hrow
      go_wp2
      go_ret
      exact ⟨rfl, ((Below.refl _ w).alloc (Nat.le_refl _) _).trans (HB.out.mono (by simp))⟩
theorem sret {a b : ByteArray} (h : a = b) : Ending.returned (.string a) = .returned (.string b) := by rw [h]
set_option maxHeartbeats 2000000 in
theorem path_any (nm : ByteArray) (k e n : Int) (A : Option Addr) (m c : Nat) (l : List FieldD) (rt : Bool) (I : Option Addr) (ni ci : Nat) (i : Nat) (w : World) (hr : Row w w.heap.size 2 A m (fieldRow l)) (hm : m ≤ 1000000) (hml : m = l.length) (hc : m ≤ c) (hcm : c ≤ 9223372036854775807) (hi : i < 100)
    (hnm : nm.size ≤ 1000000) (hfn : ∀ f ∈ l, f.name.size ≤ 1000000) :
    Calls Tryd.prog 51 #[.agg #[.string nm, .int .i64 k, .int .i64 e, .int .i64 n, .slice A m c, .bool rt, .slice I ni ci], .int .i64 i] w fun e' w' => e' = .returned (.string (pathOf nm k l i)) ∧ Below w.heap.size w w' := by
  have F := Lib.hid (fun u (h : Row u u.heap.size 2 A m (fieldRow l)) => fieldsT_any k e n A m c l u h hm hml hc hcm)
  have HR := Lib.hid hr
  have hlen := fieldsOf_len (k := k) (hml ▸ hm)
  have HLEN := Lib.hid hlen
  have HSZ := Lib.hid (fieldsOf_size (k := k) hfn)
  have hnm' : (nm.size : Int) ≤ 1000000 := by omega
  clear hr hml hlen hfn
  by_cases h7 : k = 7
  · subst h7
    have HP : Hid (pathOf nm 7 l i = nm ++ { data := #[91] } ++ digits2 i ++ { data := #[93] }) := Lib.hid (by simp [pathOf])
    generalize pathOf nm 7 l i = q at *
    have IT := Lib.hid (fun u => itoa_small i hi u)
    have hd := digits2_size i
    generalize digits2 i = d at *
    have hd' : (d.size : Int) ≤ 2 := by omega
    go_enter Tryd.func51, Tryd.ntmps51
    go_wp2_with fail
    refine (F.out _ ((HR.out.alloc (Nat.le_refl _) _).more (by simp))).mono ?_
    rintro e' w1 ⟨⟨R, c', rfl, hcc, hcm', hrow⟩, hb⟩
    have k0 : w1.cell? ⟨w.heap.size, 0, none⟩ = some (.string nm) := (dcell hb (by simp) 0).trans (by go_simp)
    have k1 : w1.cell? ⟨w.heap.size, 1, none⟩ = some (.int .i64 7) := (dcell hb (by simp) 1).trans (by go_simp)
    have HB := Lib.hid hb
    clear hb hrow hcc hcm'
    go_wp2_with fail
    go_quiet ((go_at_call 72; exact Calls.quiet_of_same (IT.out _)))
    go_wp2
    go_ret
    exact ⟨sret HP.out.symm, (((Below.refl _ w).alloc (Nat.le_refl _) _).trans (HB.out.mono (by simp))).trans ⟨rfl, rfl, rfl, Nat.le_refl _, fun _ _ => rfl⟩⟩
  · have h7' : (k == 7) = false := by simpa using h7
    have HK : Hid (pathOf nm k l i = match (fieldsOf k l)[i]? with | some f => nm ++ { data := #[46] } ++ f.name | none => nm) := Lib.hid (by simp [pathOf, h7])
    generalize pathOf nm k l i = q at *
    generalize fieldsOf k l = fs at *
    by_cases hlt : i < fs.length
    · obtain ⟨f, hf⟩ : ∃ f, fs[i]? = some f := ⟨_, List.getElem?_eq_getElem hlt⟩
      have hq : q = nm ++ { data := #[46] } ++ f.name := by rw [HK.out, hf]
      have hfs : f.name.size ≤ 1000000 := HSZ.out f (List.mem_of_getElem? hf)
      have HF := Lib.hid hf
      have HQ := Lib.hid hq
      have hfs' : (f.name.size : Int) ≤ 1000000 := by omega
      clear hf hq
      go_enter Tryd.func51, Tryd.ntmps51
      go_wp2_with fail
      refine (F.out _ ((HR.out.alloc (Nat.le_refl _) _).more (by simp))).mono ?_
      rintro e' w1 ⟨⟨R, c', rfl, hcc, hcm', hrow⟩, hb⟩
      have k0 : w1.cell? ⟨w.heap.size, 0, none⟩ = some (.string nm) := (dcell hb (by simp) 0).trans (by go_simp)
      have k1 : w1.cell? ⟨w.heap.size, 1, none⟩ = some (.int .i64 k) := (dcell hb (by simp) 1).trans (by go_simp)
      obtain ⟨b, off, rfl, _, hcell⟩ := hrow.2 (by omega)
      have hx : w1.cell? ⟨b, off + i * 2, none⟩ = some (.string f.name) := hcell (i * 2) (.string f.name) ((flat_get fieldCells 2 fieldCells_length fs i 0 f HF.out (by omega)).trans rfl)
      have HB := Lib.hid hb
      clear hb hrow hcell
      go_wp2_with fail
      go_quiet (fail)
      go_wp2
      go_ret
      exact ⟨sret HQ.out.symm, (((Below.refl _ w).alloc (Nat.le_refl _) _).trans (HB.out.mono (by simp))).trans ⟨rfl, rfl, rfl, Nat.le_refl _, fun _ _ => rfl⟩⟩
    · have hq : q = nm := by rw [HK.out, List.getElem?_eq_none (by omega)]
      subst hq
      go_enter Tryd.func51, Tryd.ntmps51
      go_wp2_with fail
      refine (F.out _ ((HR.out.alloc (Nat.le_refl _) _).more (by simp))).mono ?_
      rintro e' w1 ⟨⟨R, c', rfl, hcc, hcm', hrow⟩, hb⟩
      have k0 : w1.cell? ⟨w.heap.size, 0, none⟩ = some (.string q) := (dcell hb (by simp) 0).trans (by go_simp)
      have k1 : w1.cell? ⟨w.heap.size, 1, none⟩ = some (.int .i64 k) := (dcell hb (by simp) 1).trans (by go_simp)
      have HB := Lib.hid hb
      clear hb hrow
      go_wp2
      go_ret
      exact ⟨rfl, ((Below.refl _ w).alloc (Nat.le_refl _) _).trans (HB.out.mono (by simp))⟩
end Go.Proofs.YtngobbbinacomaaDoor
/- Variables and their cells, as rows; put. -/
namespace Go.Proofs.YtngobbbinacomaaDoor
open Go.RowKit
set_option linter.unusedVariables false
set_option linter.unusedSimpArgs false
structure CellD where
  path : ByteArray
  kind : Int
  retain : Bool
  init : Int
  len : Int
  block : Int
def cellCells (c : CellD) : List Value := [.string c.path, .int .i64 c.kind, .bool c.retain, .int .i64 c.init, .int .i64 c.len, .int .i64 c.block]
def cellRow (l : List CellD) : List Value := l.flatMap cellCells
theorem cellCells_length (c : CellD) : (cellCells c).length = 6 := rfl
theorem cellCells_one (c : CellD) : ∀ u ∈ cellCells c, u.oneCell' = true := by
  intro u hu; simp [cellCells] at hu; rcases hu with rfl | rfl | rfl | rfl | rfl | rfl <;> rfl
structure SymD where
  name : ByteArray
  kind : Int
  elem : Int
  n : Int
  fields : List FieldD
  retain : Bool
  init : List Int
/-- What is said of a variable's sizes. -/
structure SymD.Ok (s : SymD) : Prop where
  name : s.name.size ≤ 1000000
  fields : s.fields.length ≤ 1000000
  fnames : ∀ f ∈ s.fields, f.name.size ≤ 1000000
  init : s.init.length ≤ 1000000
def SymD.size (s : SymD) : Int := sizeOf8 s.kind s.n s.fields
def SymD.count (s : SymD) : Nat := (min (max s.size 0) 64).toNat
def SymD.cell (s : SymD) (i : Nat) : CellD :=
  ⟨pathOf s.name s.kind s.fields i, kindOf s.kind s.elem s.fields i, s.retain, s.init.getD i 0, if i = 0 ∧ s.kind = 7 then s.n else 0, if i = 0 ∧ (s.kind = 9 ∨ s.kind = 10) then s.kind else 0⟩
def SymD.cells (s : SymD) : List CellD := (List.range s.count).map s.cell
def cellsOf (l : List SymD) : List CellD := l.flatMap SymD.cells
theorem SymD.count_le (s : SymD) : s.count ≤ 64 := by unfold SymD.count; omega
theorem SymD.cells_length (s : SymD) : s.cells.length = s.count := by simp [SymD.cells]
theorem cellsOf_length_le (l : List SymD) : (cellsOf l).length ≤ l.length * 64 := by
  induction l with
  | nil => simp [cellsOf]
  | cons s l ih =>
    have := s.cells_length
    have := s.count_le
    simp only [cellsOf, List.flatMap_cons, List.length_append, List.length_cons] at *
    omega
/-- A variable, as it lies: seven cells. -/
def SymAt (w : World) (B b off : Nat) (s : SymD) : Prop :=
  ∃ Fa Fc Ia Ic, w.cell? ⟨b, off, none⟩ = some (.string s.name) ∧ w.cell? ⟨b, off + 1, none⟩ = some (.int .i64 s.kind) ∧ w.cell? ⟨b, off + 2, none⟩ = some (.int .i64 s.elem) ∧ w.cell? ⟨b, off + 3, none⟩ = some (.int .i64 s.n) ∧
    w.cell? ⟨b, off + 4, none⟩ = some (.slice Fa s.fields.length Fc) ∧ w.cell? ⟨b, off + 5, none⟩ = some (.bool s.retain) ∧ w.cell? ⟨b, off + 6, none⟩ = some (.slice Ia s.init.length Ic) ∧
    Row w B 2 Fa s.fields.length (fieldRow s.fields) ∧ s.fields.length ≤ Fc ∧ Fc ≤ 9223372036854775807 ∧ Row w B 1 Ia s.init.length (s.init.map (Value.int .i64)) ∧ s.init.length ≤ Ic ∧ Ic ≤ 9223372036854775807
theorem SymAt.below {w w' : World} {B b off : Nat} {s : SymD} (h : SymAt w B b off s) (hb : Below B w w') (hlt : b < B) : SymAt w' B b off s := by
  obtain ⟨Fa, Fc, Ia, Ic, c0, c1, c2, c3, c4, c5, c6, h1, h2, h3, h4, h5⟩ := h
  exact ⟨Fa, Fc, Ia, Ic, (dcell hb hlt _).trans c0, (dcell hb hlt _).trans c1, (dcell hb hlt _).trans c2, (dcell hb hlt _).trans c3, (dcell hb hlt _).trans c4, (dcell hb hlt _).trans c5, (dcell hb hlt _).trans c6, h1.below hb, h2, h3, h4.below hb, h5⟩
/-- A row of variables. -/
structure Syms (w : World) (B : Nat) (A : Option Addr) (n : Nat) (l : List SymD) : Prop where
  len : n = l.length
  at_ : 0 < n → ∃ b off, A = some ⟨b, off, none⟩ ∧ b < B ∧ ∀ (i : Nat) (s : SymD), l[i]? = some s → SymAt w B b (off + i * 7) s
  ok : ∀ s ∈ l, s.Ok
theorem Syms.below {w w' : World} {B : Nat} {A : Option Addr} {n : Nat} {l : List SymD} (h : Syms w B A n l) (hb : Below B w w') : Syms w' B A n l :=
  ⟨h.len, fun hn => by
    obtain ⟨b, off, e, hlt, hs⟩ := h.at_ hn
    exact ⟨b, off, e, hlt, fun i s hi => (hs i s hi).below hb hlt⟩, h.ok⟩
theorem cellInfo8 : (Tryd.prog.info? 42).map (fun i => (i.zero, i.size, i.bytes)) = some (some (.agg #[.string { data := #[] }, .int .i64 0, .bool false, .int .i64 0, .int .i64 0, .int .i64 0]), 6, 56) := by kernel_rfl
theorem cellTy8 : Tryd.prog.underlying 39 = some (.slice 42) := by kernel_rfl
set_option maxHeartbeats 1000000 in
theorem put_any (A : Option Addr) (n c : Nat) (xs : List Value) (A' : Option Addr) (m c' : Nat) (ys : List Value) (w : World) (hl : Row w w.heap.size 6 A n xs) (hr : Row w w.heap.size 6 A' m ys) (hn : n + m ≤ 100000000) (hc : n ≤ c) (hcm : c ≤ 9223372036854775807) :
    Calls Tryd.prog 53 #[.slice A n c, .slice A' m c'] w (RowBack w.heap.size 6 (n + m) (xs ++ ys) w) := by
  obtain ⟨i0, hi, hz0, hz1, hz2⟩ := info_parts cellInfo8
  have t27 := cellTy8
  have HL := Lib.hid hl
  have HR := Lib.hid hr
  have hc' : (n : Int) ≤ c := by omega
  clear hl hr
  go_enter Tryd.func53, Tryd.ntmps53
  go_wp2_with (at_builtin; refine wpList_append_full _ rfl _ _ 39 rfl 42 i0 _ 6 56 t27 hi hz0 hz1 hz2 rfl (by decide) w.heap.size A n xs rfl HL.out (Nat.le_refl _) A' m c' ys rfl HR.out ?qc4 ?qc5 ?_)
  case qc4 => unfold maxLen; omega
  case qc5 => omega
  intro R cap w1 hcc hcm' hrow hb
  have HB := Lib.hid hb
  have HRow := Lib.hid hrow
  have HC := Lib.hid hcc
  have HM := Lib.hid hcm'
  clear hb hrow hcc hcm'
  go_wp2
  go_ret
  exact ⟨⟨R, cap, rfl, HC.out, HM.out, HRow.out⟩, HB.out⟩
end Go.Proofs.YtngobbbinacomaaDoor
/- Cells: each round makes one variable's cells. -/
namespace Go.Proofs.YtngobbbinacomaaDoor
open Go.RowKit
set_option linter.unusedVariables false
set_option linter.unusedSimpArgs false
attribute [local go_sem ↓] Go.wp_at_zero Go.wp_at_succ
/-- Six cells of a block, none frozen. -/
structure CellAt (w : World) (b : Nat) (p : ByteArray) (k : Int) (r : Bool) (i l bl : Int) : Prop where
  c0 : w.cell? ⟨b, 0, none⟩ = some (.string p)
  c1 : w.cell? ⟨b, 1, none⟩ = some (.int .i64 k)
  c2 : w.cell? ⟨b, 2, none⟩ = some (.bool r)
  c3 : w.cell? ⟨b, 3, none⟩ = some (.int .i64 i)
  c4 : w.cell? ⟨b, 4, none⟩ = some (.int .i64 l)
  c5 : w.cell? ⟨b, 5, none⟩ = some (.int .i64 bl)
  f0 : w.frozen? ⟨b, 0, none⟩ = false
  f1 : w.frozen? ⟨b, 1, none⟩ = false
  f2 : w.frozen? ⟨b, 2, none⟩ = false
  f3 : w.frozen? ⟨b, 3, none⟩ = false
  f4 : w.frozen? ⟨b, 4, none⟩ = false
  f5 : w.frozen? ⟨b, 5, none⟩ = false
/-- The seven cells of the variable that a round has taken. -/
structure SymLoc (w : World) (b : Nat) (s : SymD) (Fa : Option Addr) (Fc : Nat) (Ia : Option Addr) (Ic : Nat) : Prop where
  c0 : w.cell? ⟨b, 0, none⟩ = some (.string s.name)
  c1 : w.cell? ⟨b, 1, none⟩ = some (.int .i64 s.kind)
  c2 : w.cell? ⟨b, 2, none⟩ = some (.int .i64 s.elem)
  c3 : w.cell? ⟨b, 3, none⟩ = some (.int .i64 s.n)
  c4 : w.cell? ⟨b, 4, none⟩ = some (.slice Fa s.fields.length Fc)
  c5 : w.cell? ⟨b, 5, none⟩ = some (.bool s.retain)
  c6 : w.cell? ⟨b, 6, none⟩ = some (.slice Ia s.init.length Ic)
theorem SymLoc.below {w w' : World} {B b : Nat} {s : SymD} {Fa Ia : Option Addr} {Fc Ic : Nat} (h : SymLoc w b s Fa Fc Ia Ic) (hb : Below B w w') (hlt : b < B) : SymLoc w' b s Fa Fc Ia Ic :=
  ⟨(dcell hb hlt _).trans h.c0, (dcell hb hlt _).trans h.c1, (dcell hb hlt _).trans h.c2, (dcell hb hlt _).trans h.c3, (dcell hb hlt _).trans h.c4, (dcell hb hlt _).trans h.c5, (dcell hb hlt _).trans h.c6⟩
theorem dfroz {W w1 : World} {B : Nat} (hb : Below B W w1) {b : Nat} (h : b < B) (o : Nat) : w1.frozen? ⟨b, o, none⟩ = W.frozen? ⟨b, o, none⟩ := hb.frozen (p := ⟨b, o, none⟩) h
def OuterRel (w : World) (l : List SymD) (out i : Value) (wr : World) : Prop :=
  ∃ (k : Nat) (R : Option Addr) (c : Nat), i = .int .i64 k ∧ k ≤ l.length ∧ out = .slice R (cellsOf (l.take k)).length c ∧ (cellsOf (l.take k)).length ≤ c ∧ c ≤ 9223372036854775807 ∧
    Row wr wr.heap.size 6 R (cellsOf (l.take k)).length (cellRow (cellsOf (l.take k))) ∧ Below w.heap.size w wr
def InnerRel (ws : World) (T : TypeId) (s : SymD) (row i : Value) (wr : World) : Prop :=
  ∃ (k : Nat), i = .int .i64 k ∧ k ≤ s.count ∧ wr.ownsRow ws.heap.size T 6 row k (cellRow ((List.range k).map s.cell)) ∧ Below ws.heap.size ws wr
theorem keepSym {u1 W' : World} {B g : Nat} {v0 v1 v2 v3 v4 v5 v6 : Value} (hb : Below B u1 W') (h : g < B) (k0 : u1.cell? ⟨g, 0, none⟩ = some v0) (k1 : u1.cell? ⟨g, 1, none⟩ = some v1) (k2 : u1.cell? ⟨g, 2, none⟩ = some v2) (k3 : u1.cell? ⟨g, 3, none⟩ = some v3) (k4 : u1.cell? ⟨g, 4, none⟩ = some v4) (k5 : u1.cell? ⟨g, 5, none⟩ = some v5) (k6 : u1.cell? ⟨g, 6, none⟩ = some v6) :
    W'.cell? ⟨g, 0, none⟩ = some v0 ∧ W'.cell? ⟨g, 1, none⟩ = some v1 ∧ W'.cell? ⟨g, 2, none⟩ = some v2 ∧ W'.cell? ⟨g, 3, none⟩ = some v3 ∧ W'.cell? ⟨g, 4, none⟩ = some v4 ∧ W'.cell? ⟨g, 5, none⟩ = some v5 ∧ W'.cell? ⟨g, 6, none⟩ = some v6 :=
  ⟨(dcell hb h 0).trans k0, (dcell hb h 1).trans k1, (dcell hb h 2).trans k2, (dcell hb h 3).trans k3, (dcell hb h 4).trans k4, (dcell hb h 5).trans k5, (dcell hb h 6).trans k6⟩
set_option maxHeartbeats 8000000 in
set_option maxRecDepth 100000 in
theorem cells_any (A : Option Addr) (n c : Nat) (l : List SymD) (w : World) (hs : Syms w w.heap.size A n l) (hn : n ≤ 10000) (hc : n ≤ c) (hcm : c ≤ 9223372036854775807) :
    Calls Tryd.prog 38 #[.slice A n c] w (RowBack w.heap.size 6 (cellsOf l).length (cellRow (cellsOf l)) w) := by
  obtain ⟨i0, hi, hz0, hz1, hz2⟩ := info_parts cellInfo8
  have t27 := cellTy8
  have hnl := hs.len
  subst hnl
  have HS := Lib.hid hs
  clear hs
  have hl' : (l.length : Int) ≤ 10000 := by omega
  go_enter Tryd.func38, Tryd.ntmps38
  go_wp2_with fail
  go_loopw [3, 11] (fun out i wr => OuterRel w l out i wr) (fun _ i _ => l.length - (intOf i).toNat)
  case atStart => exact ⟨0, none, 0, rfl, Nat.zero_le _, rfl, Nat.zero_le _, by omega, Row.nil, Below.refl _ _⟩
  case round =>
    obtain ⟨k, R, c1, rfl, hk, rfl, hc1, hcm1, hrow, hb⟩ := hrel
    have HROW := Lib.hid hrow
    have HB := Lib.hid hb
    by_cases hlt : k < l.length
    · have hlt' : (k : Int) < l.length := by omega
      obtain ⟨s, hsk⟩ : ∃ s, l[k]? = some s := ⟨_, List.getElem?_eq_getElem hlt⟩
      have hok := HS.out.ok s (List.mem_of_getElem? hsk)
      obtain ⟨b, off, hA, hbl, hat⟩ := HS.out.at_ (by omega)
      obtain ⟨Fa, Fc, Ia, Ic, k0, k1, k2, k3, k4, k5, k6, hF, hFc, hFm, hI, hIc, hIm⟩ := (hat k s hsk).below hb hbl
      subst hA
      have HSK := Lib.hid hsk
      have HOK := Lib.hid hok
      have HF := Lib.hid hF
      have HI := Lib.hid hI
      have hzw := hb.size
      have hbw : b < wr.heap.size := by omega
      clear hrow hb hat hF hI hsk hok
      obtain ⟨wo, hwo⟩ : ∃ wo : World, wo = wr := ⟨_, rfl⟩
      subst hwo
      go_upto_region 6 with fail
      have HL0 := Lib.hid (show SymLoc (wo.alloc (.cells #[.string s.name, .int .i64 s.kind, .int .i64 s.elem, .int .i64 s.n, .slice Fa s.fields.length Fc, .bool s.retain, .slice Ia s.init.length Ic] 52)) wo.heap.size s Fa Fc Ia Ic by constructor <;> go_simp)
      go_cut [19, 20] (fun v19 v20 wx => v19 = .int .i64 s.count ∧ v20 = .int .i64 0 ∧ SymLoc wx wo.heap.size s Fa Fc Ia Ic ∧ Below wo.heap.size wo wx ∧ wo.heap.size < wx.heap.size)
      case first =>
        have hcnt : (s.count : Int) = min (max (sizeOf8 s.kind s.n s.fields) 0) 64 := by unfold SymD.count SymD.size; omega
        generalize s.count = cn at *
        go_wp2_with fail
        refine (sizeT_any s.kind s.elem s.n Fa s.fields.length Fc s.fields _ (((HF.out.more hzw).alloc (Nat.le_refl _) _).more (by simp)) HOK.out.fields rfl hFc hFm).mono ?_
        rintro e ws ⟨rfl, hbs⟩
        have HBS := Lib.hid hbs
        have HC := Lib.hid hcnt
        clear hbs hcnt
        go_wp2_with fail
        all_goals go_meet
        all_goals refine ⟨?_, rfl, HL0.out.below HBS.out (by simp), ((Below.refl _ wo).alloc (Nat.le_refl _) _).trans (HBS.out.mono (by simp)), by have := HBS.out.size; simp at this; omega⟩
        all_goals (rw [HC.out]; congr 1; omega)
      case rest =>
      obtain ⟨rfl, rfl, hloc, hbx, hszx⟩ := hcut
      have h64 := s.count_le
      have HLX := Lib.hid hloc
      have HBX := Lib.hid hbx
      generalize hwd : wc = wd at *
      clear hloc hbx hwd HL0 k0 k1 k2 k3 k4 k5 k6
      go_wp2_with fail
      go_loopw [6, 20] (fun row i wr => InnerRel wd 42 s row i wr) (fun _ i _ => s.count - (intOf i).toNat)
      case atStart => exact ⟨0, rfl, Nat.zero_le _, World.ownsRow_nil _ _ _ _, Below.refl _ _⟩
      case round =>
        obtain ⟨j, rfl, hj, hown, hbr⟩ := hrel
        have HOW := Lib.hid hown
        have HBR := Lib.hid hbr
        have hzr := hbr.size
        have HLR := Lib.hid (HLX.out.below hbr hszx)
        have HFR := Lib.hid (show Row wr wr.heap.size 2 Fa s.fields.length (fieldRow s.fields) from ((HF.out.more hzw).below (HBX.out.trans (hbr.mono (by omega)))).more (by omega))
        have HIR := Lib.hid (show Row wr wr.heap.size 1 Ia s.init.length (s.init.map (Value.int .i64)) from ((HI.out.more hzw).below (HBX.out.trans (hbr.mono (by omega)))).more (by omega))
        clear hown hbr
        by_cases hjl : j < s.count
        · have hjl' : (j : Int) < s.count := by omega
          have hgr : wo.heap.size < wr.heap.size := by omega
          obtain ⟨l0, l1, l2, l3, l4, l5, l6⟩ := HLR.out
          have qz : wo.heap.size ≤ wr.heap.size := by omega
          have qn : ¬ wr.heap.size = wo.heap.size := by omega
          have qm : ¬ wo.heap.size = wr.heap.size := by omega
          go_upto_region 9 with fail
          go_cut [8] (fun v8 wx => ∃ g : Nat, v8 = .pointer (some ⟨g, 0, none⟩) ∧ wr.heap.size ≤ g ∧ g < wx.heap.size ∧ CellAt wx g (pathOf s.name s.kind s.fields j) (kindOf s.kind s.elem s.fields j) s.retain 0 0 0 ∧ Below wr.heap.size wr wx)
          case first =>
            go_region_held3 (fun w' => w'.cell? ⟨wo.heap.size, 0, none⟩ = some (.string s.name) ∧ w'.cell? ⟨wo.heap.size, 1, none⟩ = some (.int .i64 s.kind) ∧ w'.cell? ⟨wo.heap.size, 2, none⟩ = some (.int .i64 s.elem) ∧ w'.cell? ⟨wo.heap.size, 3, none⟩ = some (.int .i64 s.n) ∧ w'.cell? ⟨wo.heap.size, 4, none⟩ = some (.slice Fa s.fields.length Fc) ∧ w'.cell? ⟨wo.heap.size, 5, none⟩ = some (.bool s.retain) ∧ w'.cell? ⟨wo.heap.size, 6, none⟩ = some (.slice Ia s.init.length Ic)) (first | exact keepSym (B := wr.heap.size) (u1 := wr) (by repeat (first | (with_reducible exact HB2.out) | (with_reducible exact HB3.out) | (with_reducible exact Below.refl _ _) | (with_reducible refine Below.setCell ?_ (by first | omega | (simp; done) | (simp; omega)) _) | (with_reducible refine Below.drew ?_) | (with_reducible refine Below.alloc ?_ (by first | omega | (simp; done) | (simp; omega)) _))) hgr l0 l1 l2 l3 l4 l5 l6)
              (first | (go_at_call 51; refine (path_any s.name s.kind s.elem s.n Fa s.fields.length Fc s.fields s.retain Ia s.init.length Ic j _ ((HFR.out.below (by repeat (first | (with_reducible exact HB2.out) | (with_reducible exact HB3.out) | (with_reducible exact Below.refl _ _) | (with_reducible refine Below.setCell ?_ (by first | omega | (simp; done) | (simp; omega)) _) | (with_reducible refine Below.drew ?_) | (with_reducible refine Below.alloc ?_ (by first | omega | (simp; done) | (simp; omega)) _)))).more (by first | omega | (simp; done) | (simp; omega))) HOK.out.fields rfl hFc hFm (by omega) HOK.out.name HOK.out.fnames).mono ?_; rintro e u2 ⟨rfl, hb2⟩; have z2 := hb2.size; (try simp at z2); have HB2 := Lib.hid (show Below wr.heap.size wr u2 from Below.trans (by repeat (first | (with_reducible exact HB3.out) | (with_reducible exact Below.refl _ _) | (with_reducible refine Below.setCell ?_ (by first | omega | (simp; done) | (simp; omega)) _) | (with_reducible refine Below.drew ?_) | (with_reducible refine Below.alloc ?_ (by first | omega | (simp; done) | (simp; omega)) _))) (hb2.mono (by first | omega | (simp; done) | (simp; omega)))); (try have p2z0 : wr.heap.size < u2.heap.size := by omega); (try have p2y0 : wr.heap.size ≤ u2.heap.size := by omega); (try have p2v0 : ¬ u2.heap.size = wr.heap.size := by omega); (try have p2u0 : ¬ wr.heap.size = u2.heap.size := by omega); (try have p2c0 := dcell hb2 (b := wr.heap.size) (by first | omega | (simp; done) | (simp; omega))); (try have p2f0 := dfroz hb2 (b := wr.heap.size) (by first | omega | (simp; done) | (simp; omega))); (try have p2z1 : u3.heap.size < u2.heap.size := by omega); (try have p2y1 : u3.heap.size ≤ u2.heap.size := by omega); (try have p2v1 : ¬ u2.heap.size = u3.heap.size := by omega); (try have p2u1 : ¬ u3.heap.size = u2.heap.size := by omega); (try have p2c1 := dcell hb2 (b := u3.heap.size) (by first | omega | (simp; done) | (simp; omega))); (try have p2f1 := dfroz hb2 (b := u3.heap.size) (by first | omega | (simp; done) | (simp; omega))); clear hb2) | (go_at_call 52; refine (kind_any s.kind s.elem s.n Fa s.fields.length Fc s.fields j _ ((HFR.out.below (by repeat (first | (with_reducible exact HB2.out) | (with_reducible exact HB3.out) | (with_reducible exact Below.refl _ _) | (with_reducible refine Below.setCell ?_ (by first | omega | (simp; done) | (simp; omega)) _) | (with_reducible refine Below.drew ?_) | (with_reducible refine Below.alloc ?_ (by first | omega | (simp; done) | (simp; omega)) _)))).more (by first | omega | (simp; done) | (simp; omega))) HOK.out.fields rfl hFc hFm (by omega)).mono ?_; rintro e u3 ⟨rfl, hb3⟩; have z3 := hb3.size; (try simp at z3); have HB3 := Lib.hid (show Below wr.heap.size wr u3 from Below.trans (by repeat (first | (with_reducible exact HB2.out) | (with_reducible exact Below.refl _ _) | (with_reducible refine Below.setCell ?_ (by first | omega | (simp; done) | (simp; omega)) _) | (with_reducible refine Below.drew ?_) | (with_reducible refine Below.alloc ?_ (by first | omega | (simp; done) | (simp; omega)) _))) (hb3.mono (by first | omega | (simp; done) | (simp; omega)))); (try have p3z0 : wr.heap.size < u3.heap.size := by omega); (try have p3y0 : wr.heap.size ≤ u3.heap.size := by omega); (try have p3v0 : ¬ u3.heap.size = wr.heap.size := by omega); (try have p3u0 : ¬ wr.heap.size = u3.heap.size := by omega); (try have p3c0 := dcell hb3 (b := wr.heap.size) (by first | omega | (simp; done) | (simp; omega))); (try have p3f0 := dfroz hb3 (b := wr.heap.size) (by first | omega | (simp; done) | (simp; omega))); (try have p3z1 : u2.heap.size < u3.heap.size := by omega); (try have p3y1 : u2.heap.size ≤ u3.heap.size := by omega); (try have p3v1 : ¬ u3.heap.size = u2.heap.size := by omega); (try have p3u1 : ¬ u2.heap.size = u3.heap.size := by omega); (try have p3c1 := dcell hb3 (b := u2.heap.size) (by first | omega | (simp; done) | (simp; omega))); (try have p3f1 := dfroz hb3 (b := u2.heap.size) (by first | omega | (simp; done) | (simp; omega))); clear hb3))
            all_goals (try go_wp2_with fail)
            all_goals go_meet
            all_goals refine ⟨_, rfl, (by first | omega | (simp; done) | (simp; omega)), (by first | omega | (simp; done) | (simp; omega)), ?_, ?_⟩
            all_goals first | (constructor <;> go_simp; done) | repeat (first | (with_reducible exact HB2.out) | (with_reducible exact HB3.out) | (with_reducible exact Below.refl _ _) | (with_reducible refine Below.setCell ?_ (by first | omega | (simp; done) | (simp; omega)) _) | (with_reducible refine Below.drew ?_) | (with_reducible refine Below.alloc ?_ (by first | omega | (simp; done) | (simp; omega)) _))
          case rest =>
          obtain ⟨g, rfl, hg1, hg2, hca, hbc⟩ := hcut
          generalize hwd2 : wc = wb at *
          clear hwd2
          have HLC := Lib.hid (HLR.out.below hbc hgr)
          have HIC := Lib.hid (HIR.out.below hbc)
          have HOC := Lib.hid (row_keep HOW.out hbc)
          have HBC := Lib.hid hbc
          have hcase := hca
          have hzc := hbc.size
          clear hbc hca l0 l1 l2 l3 l4 l5 l6 HLR HFR HIR
          obtain ⟨l0, l1, l2, l3, l4, l5, l6⟩ := HLC.out
          obtain ⟨a0, a1, a2, a3, a4, a5, f0, f1, f2, f3, f4, f5⟩ := hcase
          have hgn : ¬ g = wo.heap.size := by omega
          have hgm : ¬ wo.heap.size = g := by omega
          go_upto_if 37 with fail
          go_cut [] (fun wx => CellAt wx g (pathOf s.name s.kind s.fields j) (kindOf s.kind s.elem s.fields j) s.retain (s.init.getD j 0) 0 0 ∧ Below wr.heap.size wb wx ∧ wx.heap.size = wb.heap.size)
          case first =>
            by_cases hin : j < s.init.length
            · have hin' : (j : Int) < s.init.length := by omega
              obtain ⟨ib, io, rfl, _, hic⟩ := HIC.out.2 (by omega)
              have hx : wb.cell? ⟨ib, io + j, none⟩ = some (.int .i64 (s.init.getD j 0)) := hic j _ (by simp [List.getD_eq_getElem?_getD, List.getElem?_eq_getElem hin])
              clear hic
              generalize s.init.getD j 0 = q at *
              go_wp2
              go_meet
              exact ⟨by constructor <;> go_simp, (Below.refl _ _).setCell hg1 _, by simp⟩
            · have HQ := Lib.hid (show s.init.getD j 0 = 0 by rw [List.getD_eq_getElem?_getD, List.getElem?_eq_none (by omega)]; rfl)
              go_wp2
              go_meet
              rw [HQ.out]
              exact ⟨⟨a0, a1, a2, a3, a4, a5, f0, f1, f2, f3, f4, f5⟩, Below.refl _ _, rfl⟩
          case rest =>
          obtain ⟨hca, hbe, hsze⟩ := hcut
          generalize hwe : wc = we at *
          clear hwe a0 a1 a2 a3 a4 a5 f0 f1 f2 f3 f4 f5
          have hwoz : wo.heap.size < wr.heap.size := hgr
          have HLE := Lib.hid (SymLoc.mk l0 l1 l2 l3 l4 l5 l6 |>.below (hbe.mono (Nat.le_refl _)) hgr)
          have HOE := Lib.hid (row_keep (u := we) HOW.out (HBC.out.trans hbe))
          have HBE := Lib.hid (HBC.out.trans hbe)
          have hge : g < we.heap.size := by omega
          clear l0 l1 l2 l3 l4 l5 l6 hbe
          obtain ⟨l0, l1, l2, l3, l4, l5, l6⟩ := HLE.out
          obtain ⟨a0, a1, a2, a3, a4, a5, f0, f1, f2, f3, f4, f5⟩ := hca
          generalize hq : s.init.getD j 0 = q at *
          have HQ := Lib.hid hq
          clear hq
          go_upto_block 4 with fail
          go_cut [] (fun wx => CellAt wx g (pathOf s.name s.kind s.fields j) (kindOf s.kind s.elem s.fields j) s.retain q (if j = 0 ∧ s.kind = 7 then s.n else 0) (if j = 0 ∧ (s.kind = 9 ∨ s.kind = 10) then s.kind else 0) ∧ Below wr.heap.size we wx ∧ wx.heap.size = we.heap.size)
          case first =>
            have SAME := Lib.hid (CellAt.mk a0 a1 a2 a3 a4 a5 f0 f1 f2 f3 f4 f5)
            by_cases hj0 : j = 0
            · subst hj0
              by_cases h7 : s.kind = 7
              · have HK := Lib.hid h7
                have h7' : (s.kind == 7) = true := by simpa using h7
                clear h7
                go_wp2
                go_meet
                rw [if_pos ⟨by trivial, HK.out⟩, if_neg (by rw [HK.out]; decide)]
                exact ⟨by constructor <;> go_simp, (Below.refl _ _).setCell hg1 _, by simp⟩
              · have h7' : (s.kind == 7) = false := by simpa using h7
                by_cases h9 : s.kind = 9
                · have HK := Lib.hid h9
                  have h9' : (s.kind == 9) = true := by simpa using h9
                  clear h9
                  go_wp2
                  go_meet
                  rw [if_neg (by rw [HK.out]; decide), if_pos ⟨by trivial, .inl HK.out⟩]
                  exact ⟨by constructor <;> go_simp, (Below.refl _ _).setCell hg1 _, by simp⟩
                · have h9' : (s.kind == 9) = false := by simpa using h9
                  by_cases h10 : s.kind = 10
                  · have HK := Lib.hid h10
                    have h10' : (s.kind == 10) = true := by simpa using h10
                    clear h10
                    go_wp2
                    go_meet
                    rw [if_neg (by rw [HK.out]; decide), if_pos ⟨by trivial, .inr HK.out⟩]
                    exact ⟨by constructor <;> go_simp, (Below.refl _ _).setCell hg1 _, by simp⟩
                  · have h10' : (s.kind == 10) = false := by simpa using h10
                    have N7 := Lib.hid h7
                    have N9 := Lib.hid h9
                    have N10 := Lib.hid h10
                    go_wp2
                    go_meet
                    rw [if_neg (fun h => N7.out h.2), if_neg (fun h => h.2.elim N9.out N10.out)]
                    exact ⟨SAME.out, Below.refl _ _, rfl⟩
            · have hj0' : (0 : Int) < j := by omega
              have HJ := Lib.hid hj0
              go_wp2
              go_meet
              rw [if_neg (fun h => HJ.out h.1), if_neg (fun h => HJ.out h.1)]
              exact ⟨SAME.out, Below.refl _ _, rfl⟩
          case rest =>
          obtain ⟨hca, hbf, hszf⟩ := hcut
          generalize hwf : wc = wf at *
          clear hwf a0 a1 a2 a3 a4 a5 f0 f1 f2 f3 f4 f5 l0 l1 l2 l3 l4 l5 l6
          have HBF := Lib.hid (HBE.out.trans hbf)
          have HOF := Lib.hid (row_keep (u := wf) HOW.out HBF.out)
          obtain ⟨a0, a1, a2, a3, a4, a5, f0, f1, f2, f3, f4, f5⟩ := hca
          have HCELL := Lib.hid (show s.cell j = ⟨pathOf s.name s.kind s.fields j, kindOf s.kind s.elem s.fields j, s.retain, q, (if j = 0 ∧ s.kind = 7 then s.n else 0), (if j = 0 ∧ (s.kind = 9 ∨ s.kind = 10) then s.kind else 0)⟩ by rw [← HQ.out]; rfl)
          generalize (if j = 0 ∧ s.kind = 7 then s.n else 0) = ln at *
          generalize (if j = 0 ∧ (s.kind = 9 ∨ s.kind = 10) then s.kind else 0) = bl at *
          generalize hpp : pathOf s.name s.kind s.fields j = pp at *
          generalize hkk : kindOf s.kind s.elem s.fields j = kk at *
          clear hpp hkk HQ hbf
          have hzf : wd.heap.size ≤ wf.heap.size := by omega
          have HBW := Lib.hid (HBR.out.trans (HBF.out.mono hzr))
          go_wp2_with (at_builtin; refine wpList_append_own _ rfl _ _ 39 rfl wd.heap.size 42 i0 _ 6 56 t27 hi hz0 hz1 hz2 rfl (by decide) _ j (cellRow ((List.range j).map s.cell)) rfl (HOF.out.alloc _) ⟨_, 0, none⟩ 1 1 (cellCells ⟨pp, kk, s.retain, q, ln, bl⟩) rfl ?qc1 ?qc2 ?qc3 ?qc4 ?qc5 ?qc6 ?_)
          case qc1 => rfl
          case qc2 =>
            intro i u hj
            rw [Addr.add_lit]
            have hj' : i < 6 := by have := (List.getElem?_eq_some_iff.1 hj).1; simpa [cellCells] using this
            rcases (show i = 0 ∨ i = 1 ∨ i = 2 ∨ i = 3 ∨ i = 4 ∨ i = 5 by omega) with rfl | rfl | rfl | rfl | rfl | rfl <;> (simp [cellCells] at hj; subst hj; go_simp)
          case qc3 => exact cellCells_one _
          case qc4 => unfold maxLen; omega
          case qc5 => omega
          case qc6 => simp; omega
          intro v' w1 hown hgrow hnil
          have HO1 := Lib.hid hown
          have HB1 := Lib.hid (show Below wd.heap.size wd w1 from (HBW.out.alloc hzf _).grown hgrow (by simp; omega) (fun k hk => (HOF.out.lt k hk).1))
          clear hown hgrow hnil a0 a1 a2 a3 a4 a5 f0 f1 f2 f3 f4 f5
          go_wp2
          go_roundw
          case rel =>
            refine ⟨j + 1, rfl, by omega, ?_, HB1.out⟩
            have h := HO1.out
            rw [← HCELL.out] at h
            rw [List.range_succ, List.map_append, cellRow, List.flatMap_append]
            simpa [cellRow] using h
          case measure => simp [intOf]; omega
        · have hjs : j = s.count := by omega
          subst hjs
          obtain ⟨Ar, cr, rfl, hcr, hcrm⟩ := own_slice HOW.out
          have HRr := Lib.hid (Row.of_own HOW.out)
          have HBO := Lib.hid (HBX.out.trans (HBR.out.mono (Nat.le_of_lt hszx)))
          have hzo := HBO.out.size
          have HRo := Lib.hid ((HROW.out.below HBO.out).more hzo)
          have hlen := cellsOf_length_le (l.take k)
          have htl : (l.take k).length ≤ 10000 := by rw [List.length_take]; omega
          have PT := Lib.hid (put_any R (cellsOf (l.take k)).length c1 (cellRow (cellsOf (l.take k))) Ar s.count cr (cellRow ((List.range s.count).map s.cell)) wr HRo.out HRr.out (by omega) hc1 hcm1)
          clear hlen htl
          go_wp2_with fail
          refine PT.out.mono ?_
          rintro e u ⟨⟨R', c', rfl, hcc, hcm', hrow'⟩, hb'⟩
          have HR' := Lib.hid hrow'
          have HB' := Lib.hid (HB.out.trans ((HBO.out.trans (hb'.mono hzo)).mono hzw))
          have HCC := Lib.hid hcc
          have HCM := Lib.hid hcm'
          clear hrow' hb' hcc hcm'
          go_wp2
          go_roundw
          case rel =>
            have e1 : cellsOf (l.take (k + 1)) = cellsOf (l.take k) ++ s.cells := by
              rw [List.take_add_one, HSK.out]
              simp [cellsOf]
            have e2 : (cellsOf (l.take (k + 1))).length = (cellsOf (l.take k)).length + s.count := by rw [e1, List.length_append, s.cells_length]
            have e3 : cellRow (cellsOf (l.take (k + 1))) = cellRow (cellsOf (l.take k)) ++ cellRow ((List.range s.count).map s.cell) := by rw [e1]; simp [cellRow, SymD.cells]
            refine ⟨k + 1, R', c', rfl, by omega, by rw [e2], by rw [e2]; exact HCC.out, HCM.out, ?_, HB'.out⟩
            rw [e2, e3]
            exact HR'.out
          case measure => simp [intOf]; omega
    · have hkl : k = l.length := by omega
      subst hkl
      have hlen := cellsOf_length_le (l.take l.length)
      rw [List.take_length] at *
      have PT := Lib.hid (put_any none 0 0 [] R (cellsOf l).length c1 (cellRow (cellsOf l)) wr Row.nil HROW.out (by omega) (Nat.le_refl _) (by omega))
      clear hlen hb hrow
      go_wp2_with fail
      refine PT.out.mono ?_
      rintro e u ⟨⟨R', c', rfl, hcc, hcm', hrow'⟩, hb'⟩
      have HR' := Lib.hid hrow'
      have HB' := Lib.hid (HB.out.trans (hb'.mono HB.out.size))
      have HCC := Lib.hid hcc
      have HCM := Lib.hid hcm'
      clear hrow' hb' hcc hcm'
      go_wp2
      go_ret
      refine ⟨⟨R', c', by simp, by have := HCC.out; omega, HCM.out, ?_⟩, HB'.out⟩
      have := HR'.out
      simpa using this
end Go.Proofs.YtngobbbinacomaaDoor
/- The document's chapter 7: Value, Fields, Size of any type. -/
namespace Go.Proofs.YtngobbbinacomaaDoor
open Go.RowKit
set_option linter.unusedVariables false
set_option linter.unusedSimpArgs false
theorem rvalueK_any (k : Int) (w : World) : Calls Tryd.prog 57 #[.int .i64 k] w fun e w' => e = .returned (.bool (isVal k)) ∧ w = w' := by
  by_cases h1 : 1 ≤ k
  · by_cases h2 : k ≤ 6
    · go_enter Tryd.func57, Tryd.ntmps57
      go_wp2
      go_ret
      exact ⟨by simp [isVal, h1, h2], rfl⟩
    · have h2' : decide (k ≤ 6) = false := by simpa using h2
      go_enter Tryd.func57, Tryd.ntmps57
      go_wp2
      go_ret
      exact ⟨by simp [isVal, h1, h2], rfl⟩
  · have h1' : decide (1 ≤ k) = false := by simpa using h1
    go_enter Tryd.func57, Tryd.ntmps57
    go_wp2
    go_ret
    exact ⟨by simp [isVal]; omega, rfl⟩
set_option maxHeartbeats 2000000 in
set_option maxRecDepth 100000 in
theorem rfieldsT_any (k e n : Int) (A : Option Addr) (m c : Nat) (l : List FieldD) (w : World) (hr : Row w w.heap.size 2 A m (fieldRow l)) (hm : m ≤ 1000000) (hml : m = l.length) (hc : m ≤ c) (hcm : c ≤ 9223372036854775807) :
    Calls Tryd.prog 59 #[.agg #[.int .i64 k, .int .i64 e, .int .i64 n, .slice A m c]] w (RowBack w.heap.size 2 (fieldsOf k l).length (fieldRow (fieldsOf k l)) w) := by
  subst hml
  obtain ⟨i0, hi, hz0, hz1, hz2⟩ := info_parts fieldInfo8
  have t27 := fieldTy8
  have HR := Lib.hid hr
  clear hr
  by_cases h8 : k = 8
  · subst h8
    go_enter Tryd.func59, Tryd.ntmps59
    go_wp2_with (at_builtin; go_loud (refine wpList_append_row _ rfl _ _ 48 rfl w.heap.size 113 i0 _ 2 24 t27 hi hz0 hz1 hz2 rfl (by decide) _ 0 [] rfl ?qo w.heap.size A l.length c (fieldRow l) rfl ?qr (flat_one _ fieldCells_one _) ?qc4 ?qc5 ?qc6 ?_))
    case qo =>
      have h := World.ownsRow_made (base := w.heap.size) (e := 113) (size := 2) (w.alloc (.cells #[.int .i64 8, .int .i64 e, .int .i64 n, .slice A l.length c] 50)) #[] 0 (by simp) (Nat.zero_le _) rfl
      have h' : ((w.alloc (.cells #[.int .i64 8, .int .i64 e, .int .i64 n, .slice A l.length c] 50)).alloc (.cells #[] 113)).ownsRow w.heap.size 113 2 (.slice (some ⟨w.heap.size + 1, 0, none⟩) 0 0) 0 [] := by simpa using h
      exact h'
    case qr => first | exact ((HR.out.alloc (Nat.le_refl _) _).alloc (by simp) _) | exact (HR.out.alloc (Nat.le_refl _) _)
    case qc4 => unfold maxLen; omega
    case qc5 => omega
    case qc6 => first | omega | (simp; done) | (simp; omega)
    intro v' w1 hown hgrow hat
    have hb : Below w.heap.size w w1 := (((Below.refl _ w).alloc (Nat.le_refl _) _).alloc (by simp) _).grown hgrow (by simp; omega) (by intro k hk; simp [Value.ownBlock] at hk; omega)
    obtain ⟨R, c', rfl, hcc, hcm'⟩ := own_slice hown
    have HRow := Lib.hid (show Row w1 w1.heap.size 2 R l.length (fieldRow l) by have := Row.of_own hown; simpa using this)
    have HB := Lib.hid hb
    have HC := Lib.hid (show l.length ≤ c' by omega)
    have HM := Lib.hid hcm'
    clear hown hgrow hat hb hcc hcm'
    go_wp2
    go_ret
    exact ⟨⟨R, c', by simp [fieldsOf], HC.out, HM.out, HRow.out⟩, HB.out⟩
  · have h8' : (k == 8) = false := by simpa using h8
    by_cases h9 : k = 9
    · subst h9
      clear h8 h8'
      go_enter Tryd.func59, Tryd.ntmps59
      go_wp2
      go_ret
      refine ⟨⟨_, 6, rfl, by simp [fieldsOf, tonF, ctuF], by omega, ⟨rfl, fun _ => ⟨_, 0, rfl, ?_, ?_⟩⟩⟩, ?_⟩
      · simp
      · intro j u hj
        have hj' : j < 12 := by have := (List.getElem?_eq_some_iff.1 hj).1; simpa [fieldRow, fieldsOf, tonF, fieldCells] using this
        rcases (show j = 0 ∨ j = 1 ∨ j = 2 ∨ j = 3 ∨ j = 4 ∨ j = 5 ∨ j = 6 ∨ j = 7 ∨ j = 8 ∨ j = 9 ∨ j = 10 ∨ j = 11 by omega) with rfl | rfl | rfl | rfl | rfl | rfl | rfl | rfl | rfl | rfl | rfl | rfl <;> (simp [fieldRow, fieldsOf, tonF, fieldCells] at hj; subst hj; go_simp)
      · exact ((Below.refl _ w).alloc (Nat.le_refl _) _).alloc (by simp) _
    · have h9' : (k == 9) = false := by simpa using h9
      by_cases h10 : k = 10
      · subst h10
        clear h8 h8' h9 h9'
        go_enter Tryd.func59, Tryd.ntmps59
        go_wp2
        go_ret
        refine ⟨⟨_, 6, rfl, by simp [fieldsOf, tonF, ctuF], by omega, ⟨rfl, fun _ => ⟨_, 0, rfl, ?_, ?_⟩⟩⟩, ?_⟩
        · simp
        · intro j u hj
          have hj' : j < 12 := by have := (List.getElem?_eq_some_iff.1 hj).1; simpa [fieldRow, fieldsOf, ctuF, fieldCells] using this
          rcases (show j = 0 ∨ j = 1 ∨ j = 2 ∨ j = 3 ∨ j = 4 ∨ j = 5 ∨ j = 6 ∨ j = 7 ∨ j = 8 ∨ j = 9 ∨ j = 10 ∨ j = 11 by omega) with rfl | rfl | rfl | rfl | rfl | rfl | rfl | rfl | rfl | rfl | rfl | rfl <;> (simp [fieldRow, fieldsOf, ctuF, fieldCells] at hj; subst hj; go_simp)
        · exact ((Below.refl _ w).alloc (Nat.le_refl _) _).alloc (by simp) _
      · have h10' : (k == 10) = false := by simpa using h10
        rw [show fieldsOf k l = [] by simp [fieldsOf, h8, h9, h10]]
        go_enter Tryd.func59, Tryd.ntmps59
        go_wp2
        go_ret
        exact ⟨⟨none, 0, rfl, Nat.le_refl _, by omega, Row.nil⟩, (Below.refl _ w).alloc (Nat.le_refl _) _⟩
theorem below_dN {B : Nat} {a w : World} (n : Nat) (h : Below B a w) : Below B a (w.drewN n) := h.trans ⟨rfl, rfl, rfl, Nat.le_refl _, fun _ _ => rfl⟩
theorem str_one (b : UInt8) : strOfNums [(b.toNat : Int)] = { data := #[b] } := by
  simp [strOfNums]
theorem digit_str (i : Nat) (h : i < 10) : strOfNums [48 + (i : Int)] = digits2 i := by
  have h2 : (48 + (i : Int)) = ((UInt8.ofNat (48 + i)).toNat : Int) := by simp; omega
  rw [h2, str_one, digits2, if_pos h]
set_option maxHeartbeats 2000000 in
set_option maxRecDepth 100000 in
/-- One digit. -/
theorem rdigits_one (i : Nat) (h : i < 10) (w : World) : Calls Tryd.prog 58 #[.int .i64 i] w fun e w' => e = .returned (.string (digits2 i)) ∧ Below w.heap.size w w' := by
  have h' : decide ((10 : Int) ≤ i) = false := by simp; omega
  have hs := digit_str i h
  have cv := run_convert_bytes_arg (P := Tryd.prog) (w.alloc (.cells #[.int .u8 (48 + (i : Int))] 5)) 44 5 Tryd.underlying44 Tryd.underlying5 w.heap.size 0 1 1 [48 + (i : Int)] rfl (fun j hj => by
    obtain rfl : j = 0 := by omega
    go_simp) 9 Tryd.underlying9
  rw [hs] at cv
  generalize digits2 i = D at *
  clear hs
  go_enter Tryd.func58, Tryd.ntmps58
  go_wp2
  go_ret
  exact ⟨rfl, (Below.refl _ _).alloc (Nat.le_refl _) _⟩
set_option maxHeartbeats 2000000 in
set_option maxRecDepth 100000 in
/-- A number's digits, from 0 to 99. -/
theorem rdigits_any (i : Nat) (h : i < 100) (w : World) : Calls Tryd.prog 58 #[.int .i64 i] w fun e w' => e = .returned (.string (digits2 i)) ∧ Below w.heap.size w w' := by
  by_cases h10 : i < 10
  · exact rdigits_one i h10 w
  · have h' : decide ((10 : Int) ≤ i) = true := by simp; omega
    have e1 : (i : Int) / 10 = ((i / 10 : Nat) : Int) := by omega
    have e2 : (i : Int) % 10 = ((i % 10 : Nat) : Int) := by omega
    have A := fun u => rdigits_one (i / 10) (by omega) u
    have B := fun u => rdigits_one (i % 10) (by omega) u
    have hd : digits2 (i / 10) ++ digits2 (i % 10) = digits2 i := by
      have h1 : i / 10 < 10 := by omega
      have h2 : i % 10 < 10 := by omega
      simp only [digits2, if_pos h1, if_pos h2, if_neg h10]
      rfl
    have s1 := digits2_size (i / 10)
    have s2 := digits2_size (i % 10)
    rw [← hd]
    rw [← e1] at A
    rw [← e2] at B
    have HA := Lib.hid A
    have HB := Lib.hid B
    clear A B hd e1 e2
    generalize digits2 (i / 10) = P at *
    generalize digits2 (i % 10) = Q at *
    go_enter Tryd.func58, Tryd.ntmps58
    go_wp2_with fail
    refine (HA.out _).mono ?_
    rintro e u1 ⟨rfl, hb1⟩
    have HB1 := Lib.hid hb1
    clear hb1
    go_wp2_with fail
    refine (HB.out _).mono ?_
    rintro e u2 ⟨rfl, hb2⟩
    have HB2 := Lib.hid hb2
    clear hb2
    go_wp2
    go_ret
    exact ⟨rfl, HB1.out.trans (HB2.out.mono HB1.out.size)⟩
end Go.Proofs.YtngobbbinacomaaDoor
/- The document's chapter 8: a variable's cells. -/
namespace Go.Proofs.YtngobbbinacomaaDoor
open Go.RowKit
set_option linter.unusedVariables false
set_option linter.unusedSimpArgs false
attribute [local go_sem ↓] Go.wp_at_zero Go.wp_at_succ
/-- A cell before what it keeps, and what it begins with. -/
def SymD.pcell (s : SymD) (i : Nat) : CellD :=
  ⟨pathOf s.name s.kind s.fields i, kindOf s.kind s.elem s.fields i, false, 0, if i = 0 ∧ s.kind = 7 then s.n else 0, if i = 0 ∧ (s.kind = 9 ∨ s.kind = 10) then s.kind else 0⟩
theorem flat_set {α : Type} (f : α → List Value) (n : Nat) (hf : ∀ x, (f x).length = n) (u : Value) : ∀ (l : List α) (i j : Nat) (x x' : α), l[i]? = some x → j < n → f x' = (f x).set j u → (l.flatMap f).set (i * n + j) u = (l.set i x').flatMap f := by
  intro l
  induction l with
  | nil => intro i j x x' h; simp at h
  | cons y l ih =>
    intro i j x x' h hj he
    cases i with
    | zero =>
      simp at h
      subst h
      rw [List.set_cons_zero, List.flatMap_cons, List.flatMap_cons, Nat.zero_mul, Nat.zero_add, List.set_append_left _ _ (by rw [hf]; exact hj), he]
    | succ i =>
      simp at h
      rw [List.set_cons_succ, List.flatMap_cons, List.flatMap_cons, List.set_append_right _ _ (by rw [hf, Nat.succ_mul]; omega), hf]
      have e : (i + 1) * n + j - n = i * n + j := by rw [Nat.succ_mul]; omega
      rw [e, ih i j x x' h hj he]
def SymD.upto (s : SymD) (k j : Nat) : CellD := if j < k then s.cell j else s.pcell j
def SymD.half (s : SymD) (k : Nat) : CellD := { s.pcell k with retain := s.retain }
theorem SymD.half_cell (s : SymD) (k : Nat) (h : ¬ k < s.init.length) : s.half k = s.cell k := by
  have h0 : s.init[k]?.getD 0 = 0 := by rw [List.getElem?_eq_none (by omega)]; rfl
  simp [SymD.half, SymD.pcell, SymD.cell, h0]
theorem SymD.upto_zero (s : SymD) (n : Nat) : (List.range n).map (s.upto 0) = (List.range n).map s.pcell := by
  congr 1
theorem SymD.upto_all (s : SymD) (n : Nat) : (List.range n).map (s.upto n) = (List.range n).map s.cell := by
  apply List.map_congr_left
  intro j hj
  simp at hj
  simp [SymD.upto, hj]
theorem SymD.upto_set (s : SymD) (n k : Nat) (h : k < n) : ((List.range n).map (s.upto k)).set k (s.cell k) = (List.range n).map (s.upto (k + 1)) := by
  apply List.ext_getElem?
  intro j
  rw [List.getElem?_set]
  by_cases hj : k = j
  · subst hj
    simp [SymD.upto, h]
  · rw [if_neg hj]
    by_cases hn : j < n
    · rw [List.getElem?_map, List.getElem?_map, List.getElem?_range hn]
      simp only [Option.map_some, SymD.upto]
      congr 1
      by_cases h1 : j < k
      · rw [if_pos h1, if_pos (by omega)]
      · rw [if_neg h1, if_neg (by omega)]
    · rw [List.getElem?_eq_none (by simp; omega), List.getElem?_eq_none (by simp; omega)]
theorem SymD.set_half (s : SymD) (n k : Nat) (h : k < n) : (cellRow ((List.range n).map (s.upto k))).set (k * 6 + 2) (.bool s.retain) = cellRow (((List.range n).map (s.upto k)).set k (s.half k)) := by
  refine flat_set cellCells 6 cellCells_length _ _ k 2 (s.pcell k) (s.half k) ?_ (by omega) rfl
  rw [List.getElem?_map, List.getElem?_range h]
  simp [SymD.upto]
theorem SymD.set_full (s : SymD) (n k : Nat) (h : k < n) : (cellRow (((List.range n).map (s.upto k)).set k (s.half k))).set (k * 6 + 3) (.int .i64 (s.init.getD k 0)) = cellRow ((List.range n).map (s.upto (k + 1))) := by
  rw [← s.upto_set n k h, cellRow, flat_set cellCells 6 cellCells_length (.int .i64 (s.init.getD k 0)) _ k 3 (s.half k) (s.cell k) ?_ (by omega) rfl, List.set_set]
  · rfl
  · rw [List.getElem?_set_self (by simp; exact h)]
theorem own_mono8 {w : World} {b b' : Nat} {e : TypeId} {size n : Nat} {v : Value} {xs : List Value} (h : w.ownsRow b e size v n xs) (hb : b' ≤ b) : w.ownsRow b' e size v n xs := by
  refine ⟨h.1, ?_⟩
  rcases h.2 with h | ⟨g, cap, cur, h1, h2, h3⟩
  · exact .inl h
  · exact .inr ⟨g, cap, cur, h1, Nat.le_trans hb h2, h3⟩
theorem own_setFar8 {w : World} {base : Nat} {e : TypeId} {size n : Nat} {v : Value} {xs : List Value} (h : w.ownsRow base e size v n xs) {a : Addr} (ha : v.ownBlock ≠ some a.block) (u : Value) : (w.setCell a u).ownsRow base e size v n xs :=
  h.kept (row := some a.block) ⟨rfl, rfl, rfl, by simp [World.setCell], fun k _ hk => Below.heap_setCell w a u k (fun e => hk (by rw [e]))⟩ (.inr ha)
theorem keep3 {u1 W' : World} {B g b o : Nat} {v0 v1 v2 : Value} (hb : Below B u1 W') (h : g < B) (h2 : b < B) (k0 : u1.cell? ⟨g, 0, none⟩ = some v0) (k1 : u1.cell? ⟨b, o, none⟩ = some v1) (k2 : u1.cell? ⟨b, o + 1, none⟩ = some v2) :
    W'.cell? ⟨g, 0, none⟩ = some v0 ∧ W'.cell? ⟨b, o, none⟩ = some v1 ∧ W'.cell? ⟨b, o + 1, none⟩ = some v2 :=
  ⟨(dcell hb h 0).trans k0, (dcell hb h2 o).trans k1, (dcell hb h2 (o + 1)).trans k2⟩
def OfRel (w1 : World) (T : TypeId) (s : SymD) (l i : Value) (wr : World) : Prop :=
  ∃ k : Nat, i = .int .i64 k ∧ k ≤ s.count ∧ wr.ownsRow w1.heap.size T 6 l k (cellRow ((List.range k).map s.pcell)) ∧ Below w1.heap.size w1 wr
def FillRel (w1 : World) (T : TypeId) (s : SymD) (l : Value) (i : Value) (wr : World) : Prop :=
  ∃ k : Nat, i = .int .i64 k ∧ k ≤ s.count ∧ wr.ownsRow w1.heap.size T 6 l s.count (cellRow ((List.range s.count).map (s.upto k))) ∧ Below w1.heap.size w1 wr
set_option maxHeartbeats 8000000 in
set_option maxRecDepth 100000 in
theorem rof_any (s : SymD) (Fa : Option Addr) (Fc : Nat) (Ia : Option Addr) (Ic : Nat) (w : World) (hf : Row w w.heap.size 2 Fa s.fields.length (fieldRow s.fields)) (hfc : s.fields.length ≤ Fc) (hfm : Fc ≤ 9223372036854775807)
    (hi : Row w w.heap.size 1 Ia s.init.length (s.init.map (Value.int .i64))) (hic : s.init.length ≤ Ic) (him : Ic ≤ 9223372036854775807) (hok : s.Ok) (hsz : s.size ≤ 64) :
    Calls Tryd.prog 41 #[.agg #[.string s.name, .int .i64 s.kind, .int .i64 s.elem, .int .i64 s.n, .slice Fa s.fields.length Fc, .bool s.retain, .slice Ia s.init.length Ic]] w
      (RowBack w.heap.size 6 s.count (cellRow s.cells) w) := by
  obtain ⟨i0, hi0, hz0, hz1, hz2⟩ := info_parts cellInfo8
  have t27 := cellTy8
  have HF := Lib.hid hf
  have HI := Lib.hid hi
  have HOK := Lib.hid hok
  have HSZ := Lib.hid hsz
  clear hf hi hok hsz
  have h64 := s.count_le
  go_enter Tryd.func41, Tryd.ntmps41
  go_upto_block 0 with fail
  obtain ⟨w1, hw1⟩ : ∃ x : World, x = w.alloc (.cells #[.string s.name, .int .i64 s.kind, .int .i64 s.elem, .int .i64 s.n, .slice Fa s.fields.length Fc, .bool s.retain, .slice Ia s.init.length Ic] 52) := ⟨_, rfl⟩
  have HL := Lib.hid (show SymLoc w1 w.heap.size s Fa Fc Ia Ic by rw [hw1]; constructor <;> go_simp)
  have hz : w1.heap.size = w.heap.size + 1 := by rw [hw1]; simp
  have HB0 := Lib.hid (show Below w.heap.size w w1 by rw [hw1]; exact (Below.refl _ w).alloc (Nat.le_refl _) _)
  rw [← hw1]
  clear hw1
  have HF1 := Lib.hid ((HF.out.below HB0.out).more (show w.heap.size ≤ w1.heap.size by omega))
  have HI1 := Lib.hid ((HI.out.below HB0.out).more (show w.heap.size ≤ w1.heap.size by omega))
  have hlt1 : w.heap.size < w1.heap.size := by omega
  have HZ := Lib.hid hz
  clear hz
  go_cut [3] (fun v wx => wx.ownsRow w1.heap.size 42 6 v s.count (cellRow ((List.range s.count).map s.pcell)) ∧ Below w1.heap.size w1 wx)
  case first =>
    obtain ⟨l0, l1, l2, l3, l4, l5, l6⟩ := HL.out
    have V := Lib.hid (fun u => rvalueK_any s.kind u)
    by_cases hv : 1 ≤ s.kind ∧ s.kind ≤ 6
    · have hv' : isVal s.kind = true := by simp [isVal, hv]
      rw [hv'] at V
      have hc1 : s.count = 1 := by unfold SymD.count SymD.size sizeOf8; rw [if_pos hv]; rfl
      have hp : s.pcell 0 = ⟨s.name, s.kind, false, 0, 0, 0⟩ := by
        have h7 : ¬ s.kind = 7 := by omega
        have h8 : ¬ s.kind = 8 := by omega
        have h9 : ¬ s.kind = 9 := by omega
        have h10 : ¬ s.kind = 10 := by omega
        simp [SymD.pcell, pathOf, kindOf, fieldsOf, h7, h8, h9, h10]
      have HP := Lib.hid hp
      have HC1 := Lib.hid hc1
      clear hv hv' hp hc1
      go_wp2_with fail
      refine (V.out _).mono ?_
      rintro e _ ⟨rfl, rfl⟩
      go_wp2_with (at_builtin; refine wpList_append_own _ rfl _ _ 39 rfl w1.heap.size 42 i0 _ 6 56 t27 hi0 hz0 hz1 hz2 rfl (by decide) _ 0 [] rfl (World.ownsRow_nil _ _ _ _) ⟨_, 0, none⟩ 1 1 (cellCells ⟨s.name, s.kind, false, 0, 0, 0⟩) rfl ?qa1 ?qa2 ?qa3 ?qa4 ?qa5 ?qa6 ?_)
      case qa1 => rfl
      case qa2 =>
        intro i u hj
        try rw [Addr.add_lit]
        have hj' : i < 6 := by have := (List.getElem?_eq_some_iff.1 hj).1; simpa [cellCells] using this
        rcases (show i = 0 ∨ i = 1 ∨ i = 2 ∨ i = 3 ∨ i = 4 ∨ i = 5 by omega) with rfl | rfl | rfl | rfl | rfl | rfl <;> (simp [cellCells] at hj; subst hj; go_simp)
      case qa3 => exact cellCells_one _
      case qa4 => unfold maxLen; omega
      case qa5 => omega
      case qa6 => first | omega | (simp; done) | (simp; omega)
      intro v' w2 hown hgrow hnil
      have HO := Lib.hid hown
      have HB := Lib.hid (show Below w1.heap.size w1 w2 from ((Below.refl _ w1).alloc (Nat.le_refl _) _).grown hgrow (by simp) (fun k hk => by simp [Value.ownBlock] at hk))
      clear hown hgrow hnil
      go_wp2
      go_meet
      refine ⟨?_, HB.out⟩
      rw [HC1.out]
      have h := HO.out
      rw [← HP.out] at h
      simpa [cellRow] using h
    · have hv' : isVal s.kind = false := by
        simp only [isVal, Bool.and_eq_false_iff, decide_eq_false_iff_not]
        omega
      rw [hv'] at V
      by_cases h7 : s.kind = 7
      · have h7' : (s.kind == 7) = true := by simpa using h7
        have hcn : (s.count : Int) = max s.n 0 := by
          have := HSZ.out
          unfold SymD.size sizeOf8 at this
          rw [if_neg hv, if_pos h7] at this
          unfold SymD.count SymD.size sizeOf8
          rw [if_neg hv, if_pos h7]
          omega
        have hp : ∀ k, s.pcell k = ⟨s.name ++ { data := #[91] } ++ digits2 k ++ { data := #[93] }, s.elem, false, 0, if k = 0 then s.n else 0, 0⟩ := fun k => by
          have h9 : ¬ s.kind = 9 := by omega
          have h10 : ¬ s.kind = 10 := by omega
          simp [SymD.pcell, pathOf, kindOf, h7]
        have HP := Lib.hid hp
        clear hp hv hv' h7
        go_wp2_with fail
        refine (V.out _).mono ?_
        rintro e _ ⟨rfl, rfl⟩
        go_wp2_with fail
        go_loopw [3, 4] (fun l i wr => OfRel w1 42 s l i wr) (fun _ i _ => s.count - (intOf i).toNat)
        case atStart => exact ⟨0, rfl, Nat.zero_le _, World.ownsRow_nil _ _ _ _, Below.refl _ _⟩
        case round =>
          obtain ⟨j, rfl, hj, hown, hbr⟩ := hrel
          have HOW := Lib.hid hown
          have HBR := Lib.hid hbr
          have hzr := hbr.size
          have HLR := Lib.hid (HL.out.below hbr hlt1)
          clear hown hbr l0 l1 l2 l3 l4 l5 l6
          obtain ⟨l0, l1, l2, l3, l4, l5, l6⟩ := HLR.out
          by_cases hjl : j < s.count
          · have hjl' : (j : Int) < s.n := by omega
            have hgr : w.heap.size < wr.heap.size := by omega
            have qz : w.heap.size ≤ wr.heap.size := by omega
            have qn : ¬ wr.heap.size = w.heap.size := by omega
            have qm : ¬ w.heap.size = wr.heap.size := by omega
            have DG := Lib.hid (fun u => rdigits_any j (by omega) u)
            have hd2 := digits2_size j
            have HPJ := Lib.hid (HP.out j)
            generalize hdg : digits2 j = dg at *
            have hnm : s.name.size ≤ 1000000 := HOK.out.name
            have e1 : (9223372036854775807 < s.name.size + 1) = False := eq_false (by omega)
            have e2 : (9223372036854775807 < s.name.size + 1 + dg.size) = False := eq_false (by omega)
            have e3 : (9223372036854775807 < s.name.size + 1 + dg.size + 1) = False := eq_false (by omega)
            go_upto_region 16 with fail
            go_cut [5] (fun v8 wx => ∃ g : Nat, v8 = .pointer (some ⟨g, 0, none⟩) ∧ wr.heap.size ≤ g ∧ g < wx.heap.size ∧ CellAt wx g (s.name ++ { data := #[91] } ++ dg ++ { data := #[93] }) s.elem false 0 0 0 ∧ Below wr.heap.size wr wx)
            case first =>
              go_region_held3 (fun w' => w'.cell? ⟨w.heap.size, 0, none⟩ = some (.string s.name) ∧ w'.cell? ⟨w.heap.size, 1, none⟩ = some (.int .i64 s.kind) ∧ w'.cell? ⟨w.heap.size, 2, none⟩ = some (.int .i64 s.elem) ∧ w'.cell? ⟨w.heap.size, 3, none⟩ = some (.int .i64 s.n) ∧ w'.cell? ⟨w.heap.size, 4, none⟩ = some (.slice Fa s.fields.length Fc) ∧ w'.cell? ⟨w.heap.size, 5, none⟩ = some (.bool s.retain) ∧ w'.cell? ⟨w.heap.size, 6, none⟩ = some (.slice Ia s.init.length Ic)) (first | exact keepSym (B := wr.heap.size) (u1 := wr) (by repeat (first | (with_reducible exact HB2.out) | (with_reducible exact Below.refl _ _) | (with_reducible refine Below.setCell ?_ (by first | omega | (simp; done) | (simp; omega)) _) | (with_reducible refine Below.drew ?_) | (with_reducible refine below_dN _ ?_) | (with_reducible refine Below.alloc ?_ (by first | omega | (simp; done) | (simp; omega)) _))) hgr l0 l1 l2 l3 l4 l5 l6)
                (first | (go_at_call 58; refine (DG.out _).mono ?_; rintro e u2 ⟨rfl, hb2⟩; have z2 := hb2.size; (try simp at z2); (try have p2z0 : wr.heap.size < u2.heap.size := by omega); (try have p2y0 : wr.heap.size ≤ u2.heap.size := by omega); (try have p2v0 : ¬ u2.heap.size = wr.heap.size := by omega); (try have p2u0 : ¬ wr.heap.size = u2.heap.size := by omega); (try have p2c0 := dcell hb2 (b := wr.heap.size) (by first | omega | (simp; done) | (simp; omega))); (try have p2f0 := dfroz hb2 (b := wr.heap.size) (by first | omega | (simp; done) | (simp; omega))); have HB2 := Lib.hid (show Below wr.heap.size wr u2 from Below.trans (by repeat (first | (with_reducible exact HB2.out) | (with_reducible exact Below.refl _ _) | (with_reducible refine Below.setCell ?_ (by first | omega | (simp; done) | (simp; omega)) _) | (with_reducible refine Below.drew ?_) | (with_reducible refine below_dN _ ?_) | (with_reducible refine Below.alloc ?_ (by first | omega | (simp; done) | (simp; omega)) _))) (hb2.mono (by first | omega | (simp; done) | (simp; omega)))); clear hb2))
              all_goals (try go_wp2_with fail)
              all_goals go_meet
              all_goals refine ⟨_, rfl, (by first | omega | (simp; done) | (simp; omega)), (by first | omega | (simp; done) | (simp; omega)), ?_, ?_⟩
              all_goals first | (constructor <;> go_simp; done) | repeat (first | (with_reducible exact HB2.out) | (with_reducible exact Below.refl _ _) | (with_reducible refine Below.setCell ?_ (by first | omega | (simp; done) | (simp; omega)) _) | (with_reducible refine Below.drew ?_) | (with_reducible refine below_dN _ ?_) | (with_reducible refine Below.alloc ?_ (by first | omega | (simp; done) | (simp; omega)) _))
            case rest =>
            obtain ⟨g, rfl, hg1, hg2, hca, hbc⟩ := hcut
            generalize hwd2 : wc = wb at *
            clear hwd2
            have HOC := Lib.hid (row_keep HOW.out hbc)
            have HBC := Lib.hid (HBR.out.trans (hbc.mono hzr))
            have hzc := hbc.size
            have hzb : w1.heap.size ≤ wb.heap.size := by omega
            have hgb : w1.heap.size ≤ g := by omega
            have HGO := Lib.hid (show Value.ownBlock _ ≠ some g from fun e => by have := (HOW.out.lt _ e).2; omega)
            have HLC := Lib.hid (HLR.out.below hbc hgr)
            clear hbc l0 l1 l2 l3 l4 l5 l6
            obtain ⟨l0, l1, l2, l3, l4, l5, l6⟩ := HLC.out
            obtain ⟨a0, a1, a2, a3, a4, a5, f0, f1, f2, f3, f4, f5⟩ := hca
            have hgn : ¬ g = w.heap.size := by omega
            have hgm : ¬ w.heap.size = g := by omega
            generalize s.name ++ { data := #[91] } ++ dg ++ { data := #[93] } = pp at *
            by_cases hj0 : j = 0
            · subst hj0
              have HCELL := Lib.hid (show s.pcell 0 = ⟨pp, s.elem, false, 0, s.n, 0⟩ by rw [HPJ.out]; simp)
              have HOF := Lib.hid (own_setFar8 HOC.out (a := ⟨g, 4, none⟩) HGO.out (.int .i64 s.n))
              go_wp2_with (at_builtin; refine wpList_append_own _ rfl _ _ 39 rfl w1.heap.size 42 i0 _ 6 56 t27 hi0 hz0 hz1 hz2 rfl (by decide) _ 0 (cellRow ((List.range 0).map s.pcell)) rfl (HOF.out.alloc _) ⟨_, 0, none⟩ 1 1 (cellCells ⟨pp, s.elem, false, 0, s.n, 0⟩) rfl ?qb1 ?qb2 ?qb3 ?qb4 ?qb5 ?qb6 ?_)
              case qb1 => rfl
              case qb2 =>
                intro i u hj
                try rw [Addr.add_lit]
                have hj' : i < 6 := by have := (List.getElem?_eq_some_iff.1 hj).1; simpa [cellCells] using this
                rcases (show i = 0 ∨ i = 1 ∨ i = 2 ∨ i = 3 ∨ i = 4 ∨ i = 5 by omega) with rfl | rfl | rfl | rfl | rfl | rfl <;> (simp [cellCells] at hj; subst hj; go_simp)
              case qb3 => exact cellCells_one _
              case qb4 => unfold maxLen; omega
              case qb6 => first | omega | (simp; done) | (simp; omega)
              intro v' w9 hown hgrow hnil
              have HO1 := Lib.hid hown
              have HB1 := Lib.hid (show Below w1.heap.size w1 w9 from ((HBC.out.setCell hgb _).alloc (by first | omega | (simp; done) | (simp; omega)) _).grown hgrow (by first | omega | (simp; done) | (simp; omega)) (fun k hk => (HOF.out.lt k hk).1))
              clear hown hgrow hnil
              go_wp2
              go_roundw
              case rel =>
                refine ⟨0 + 1, rfl, by omega, ?_, HB1.out⟩
                have h := HO1.out
                rw [← HCELL.out] at h
                rw [List.range_succ, List.map_append, cellRow, List.flatMap_append]
                simpa [cellRow] using h
              case measure => simp [intOf]; omega
            · have hj0' : ((j : Int) == 0) = false := by simp; omega
              have HCELL := Lib.hid (show s.pcell j = ⟨pp, s.elem, false, 0, 0, 0⟩ by rw [HPJ.out]; simp [hj0])
              go_wp2_with (at_builtin; refine wpList_append_own _ rfl _ _ 39 rfl w1.heap.size 42 i0 _ 6 56 t27 hi0 hz0 hz1 hz2 rfl (by decide) _ j (cellRow ((List.range j).map s.pcell)) rfl (HOC.out.alloc _) ⟨_, 0, none⟩ 1 1 (cellCells ⟨pp, s.elem, false, 0, 0, 0⟩) rfl ?qc1 ?qc2 ?qc3 ?qc4 ?qc5 ?qc6 ?_)
              case qc1 => rfl
              case qc2 =>
                intro i u hj
                try rw [Addr.add_lit]
                have hj' : i < 6 := by have := (List.getElem?_eq_some_iff.1 hj).1; simpa [cellCells] using this
                rcases (show i = 0 ∨ i = 1 ∨ i = 2 ∨ i = 3 ∨ i = 4 ∨ i = 5 by omega) with rfl | rfl | rfl | rfl | rfl | rfl <;> (simp [cellCells] at hj; subst hj; go_simp)
              case qc3 => exact cellCells_one _
              case qc4 => unfold maxLen; omega
              case qc5 => omega
              case qc6 => first | omega | (simp; done) | (simp; omega)
              intro v' w9 hown hgrow hnil
              have HO1 := Lib.hid hown
              have HB1 := Lib.hid (show Below w1.heap.size w1 w9 from (HBC.out.alloc (by first | omega | (simp; done) | (simp; omega)) _).grown hgrow (by first | omega | (simp; done) | (simp; omega)) (fun k hk => (HOC.out.lt k hk).1))
              clear hown hgrow hnil
              go_wp2
              go_roundw
              case rel =>
                refine ⟨j + 1, rfl, by omega, ?_, HB1.out⟩
                have h := HO1.out
                rw [← HCELL.out] at h
                rw [List.range_succ, List.map_append, cellRow, List.flatMap_append]
                simpa [cellRow] using h
              case measure => simp [intOf]; omega
          · have hjs : j = s.count := by omega
            have hjn : ¬ (j : Int) < s.n := by omega
            subst hjs
            have HBR' := Lib.hid HBR.out
            go_wp2
            go_meet
            exact ⟨HOW.out, HBR.out⟩
      · have h7' : (s.kind == 7) = false := by simpa using h7
        have FD := Lib.hid (fun u (h : Row u u.heap.size 2 Fa s.fields.length (fieldRow s.fields)) => rfieldsT_any s.kind s.elem s.n Fa s.fields.length Fc s.fields u h HOK.out.fields rfl hfc hfm)
        have hcn : s.count = (fieldsOf s.kind s.fields).length := by
          have := HSZ.out
          unfold SymD.size sizeOf8 at this
          rw [if_neg hv, if_neg h7] at this
          unfold SymD.count SymD.size sizeOf8
          rw [if_neg hv, if_neg h7]
          omega
        have hp : ∀ k f, (fieldsOf s.kind s.fields)[k]? = some f → s.pcell k = ⟨s.name ++ { data := #[46] } ++ f.name, f.kind, false, 0, 0, if k = 0 ∧ ¬ s.kind = 8 then s.kind else 0⟩ := fun k f hk => by
          have hb : (s.kind = 9 ∨ s.kind = 10) ↔ ¬ s.kind = 8 := by
            constructor
            · omega
            · intro h8
              have : fieldsOf s.kind s.fields ≠ [] := fun e => by rw [e] at hk; simp at hk
              unfold fieldsOf at this
              rw [if_neg h8] at this
              by_cases h9 : s.kind = 9
              · exact .inl h9
              · rw [if_neg h9] at this
                by_cases h10 : s.kind = 10
                · exact .inr h10
                · rw [if_neg h10] at this
                  exact absurd rfl this
          simp only [SymD.pcell, pathOf, kindOf, if_neg h7, hk, hb]
          simp [h7]
        have HP := Lib.hid hp
        have HSZF := Lib.hid (fieldsOf_size (k := s.kind) HOK.out.fnames)
        have HN7 := Lib.hid h7
        clear hp hv hv' h7
        generalize fieldsOf s.kind s.fields = fs at *
        go_wp2_with fail
        refine (V.out _).mono ?_
        rintro e _ ⟨rfl, rfl⟩
        go_wp2_with fail
        refine (FD.out _ HF1.out).mono ?_
        rintro e w2 ⟨⟨R, c', rfl, hcc, hcm', hrow⟩, hb⟩
        have hz12 := hb.size
        have HB12 := Lib.hid hb
        have HR2 := Lib.hid hrow
        have HL2 := Lib.hid (HL.out.below hb hlt1)
        have hlt2 : w.heap.size < w2.heap.size := by omega
        clear hb hrow l0 l1 l2 l3 l4 l5 l6
        go_wp2_with fail
        go_loopw [3, 7] (fun l i wr => OfRel w2 42 s l i wr) (fun _ i _ => s.count - (intOf i).toNat)
        case atStart => exact ⟨0, rfl, Nat.zero_le _, World.ownsRow_nil _ _ _ _, Below.refl _ _⟩
        case round =>
          obtain ⟨j, rfl, hj, hown, hbr⟩ := hrel
          have HOW := Lib.hid hown
          have HBR := Lib.hid hbr
          have hzr := hbr.size
          have HLR := Lib.hid (HL2.out.below hbr hlt2)
          have HRR := Lib.hid (HR2.out.below hbr)
          clear hown hbr
          obtain ⟨l0, l1, l2, l3, l4, l5, l6⟩ := HLR.out
          by_cases hjl : j < s.count
          · have hjl' : (j : Int) < fs.length := by omega
            obtain ⟨f, hf⟩ : ∃ f, fs[j]? = some f := ⟨_, List.getElem?_eq_getElem (by omega)⟩
            have HF := Lib.hid hf
            have HPJ := Lib.hid (HP.out j f hf)
            have hfs : f.name.size ≤ 1000000 := HSZF.out f (List.mem_of_getElem? hf)
            have hnm : s.name.size ≤ 1000000 := HOK.out.name
            have e1 : (9223372036854775807 < s.name.size + 1) = False := eq_false (by omega)
            have e2 : (9223372036854775807 < s.name.size + 1 + f.name.size) = False := eq_false (by omega)
            obtain ⟨b, off, hRb, hbl, hcell⟩ := HRR.out.2 (by omega)
            have hx0 : wr.cell? ⟨b, off + j * 2, none⟩ = some (.string f.name) := hcell (j * 2) (.string f.name) ((flat_get fieldCells 2 fieldCells_length fs j 0 f hf (by omega)).trans rfl)
            have hx1 : wr.cell? ⟨b, off + j * 2 + 1, none⟩ = some (.int .i64 f.kind) := by
              have h := hcell (j * 2 + 1) (.int .i64 f.kind) ((flat_get fieldCells 2 fieldCells_length fs j 1 f hf (by omega)).trans rfl)
              rw [← Nat.add_assoc] at h
              exact h
            subst hRb
            have hgr : w.heap.size < wr.heap.size := by omega
            have qz : w.heap.size ≤ wr.heap.size := by omega
            have qn : ¬ wr.heap.size = w.heap.size := by omega
            have qm : ¬ w.heap.size = wr.heap.size := by omega
            have hbr : b < wr.heap.size := by omega
            have qb : ¬ wr.heap.size = b := by omega
            have qc : ¬ b = wr.heap.size := by omega
            clear hcell hf
            go_upto_region 6 with fail
            go_cut [8] (fun v8 wx => ∃ g : Nat, v8 = .pointer (some ⟨g, 0, none⟩) ∧ wr.heap.size ≤ g ∧ g < wx.heap.size ∧ CellAt wx g (s.name ++ { data := #[46] } ++ f.name) f.kind false 0 0 0 ∧ Below wr.heap.size wr wx)
            case first =>
              go_region_held3 (fun w' => w'.cell? ⟨w.heap.size, 0, none⟩ = some (.string s.name) ∧ w'.cell? ⟨b, off + j * 2, none⟩ = some (.string f.name) ∧ w'.cell? ⟨b, off + j * 2 + 1, none⟩ = some (.int .i64 f.kind)) (first | exact keep3 (B := wr.heap.size) (u1 := wr) (by repeat (first | (with_reducible exact HB2.out) | (with_reducible exact Below.refl _ _) | (with_reducible refine Below.setCell ?_ (by first | omega | (simp; done) | (simp; omega)) _) | (with_reducible refine Below.drew ?_) | (with_reducible refine below_dN _ ?_) | (with_reducible refine Below.alloc ?_ (by first | omega | (simp; done) | (simp; omega)) _))) hgr hbr l0 hx0 hx1) (fail)
              all_goals (try go_wp2_with fail)
              all_goals go_meet
              all_goals refine ⟨_, rfl, (by first | omega | (simp; done) | (simp; omega)), (by first | omega | (simp; done) | (simp; omega)), ?_, ?_⟩
              all_goals first | (constructor <;> go_simp; done) | repeat (first | (with_reducible exact Below.refl _ _) | (with_reducible refine Below.setCell ?_ (by first | omega | (simp; done) | (simp; omega)) _) | (with_reducible refine Below.drew ?_) | (with_reducible refine below_dN _ ?_) | (with_reducible refine Below.alloc ?_ (by first | omega | (simp; done) | (simp; omega)) _))
            case rest =>
            obtain ⟨g, rfl, hg1, hg2, hca, hbc⟩ := hcut
            generalize hwd2 : wc = wb at *
            clear hwd2
            have HOC := Lib.hid (row_keep HOW.out hbc)
            have HBC := Lib.hid (HBR.out.trans (hbc.mono hzr))
            have hzc := hbc.size
            have hzb : w2.heap.size ≤ wb.heap.size := by omega
            have hgb : w2.heap.size ≤ g := by omega
            have HGO := Lib.hid (show Value.ownBlock _ ≠ some g from fun e => by have := (HOW.out.lt _ e).2; omega)
            have HLC := Lib.hid (HLR.out.below hbc hgr)
            clear hbc l0 l1 l2 l3 l4 l5 l6 hx0 hx1
            obtain ⟨l0, l1, l2, l3, l4, l5, l6⟩ := HLC.out
            obtain ⟨a0, a1, a2, a3, a4, a5, f0, f1, f2, f3, f4, f5⟩ := hca
            have hgn : ¬ g = w.heap.size := by omega
            have hgm : ¬ w.heap.size = g := by omega
            generalize s.name ++ { data := #[46] } ++ f.name = pp at *
            by_cases hj0 : j = 0
            · subst hj0
              by_cases h8 : s.kind = 8
              · have h8' : (s.kind == 8) = true := by simpa using h8
                have HCELL := Lib.hid (show s.pcell 0 = ⟨pp, f.kind, false, 0, 0, 0⟩ by rw [HPJ.out]; simp [h8])
                clear h8
                go_wp2_with (at_builtin; refine wpList_append_own _ rfl _ _ 39 rfl w2.heap.size 42 i0 _ 6 56 t27 hi0 hz0 hz1 hz2 rfl (by decide) _ 0 (cellRow ((List.range 0).map s.pcell)) rfl (HOC.out.alloc _) ⟨_, 0, none⟩ 1 1 (cellCells ⟨pp, f.kind, false, 0, 0, 0⟩) rfl ?qd1 ?qd2 ?qd3 ?qd4 ?qd5 ?qd6 ?_)
                case qd1 => rfl
                case qd2 =>
                  intro i u hj
                  try rw [Addr.add_lit]
                  have hj' : i < 6 := by have := (List.getElem?_eq_some_iff.1 hj).1; simpa [cellCells] using this
                  rcases (show i = 0 ∨ i = 1 ∨ i = 2 ∨ i = 3 ∨ i = 4 ∨ i = 5 by omega) with rfl | rfl | rfl | rfl | rfl | rfl <;> (simp [cellCells] at hj; subst hj; go_simp)
                case qd3 => exact cellCells_one _
                case qd4 => unfold maxLen; omega
                case qd6 => first | omega | (simp; done) | (simp; omega)
                intro v' w9 hown hgrow hnil
                have HO1 := Lib.hid hown
                have HB1 := Lib.hid (show Below w2.heap.size w2 w9 from (HBC.out.alloc (by first | omega | (simp; done) | (simp; omega)) _).grown hgrow (by first | omega | (simp; done) | (simp; omega)) (fun k hk => (HOC.out.lt k hk).1))
                clear hown hgrow hnil
                go_wp2
                go_roundw
                case rel =>
                  refine ⟨0 + 1, rfl, by omega, ?_, HB1.out⟩
                  have h := HO1.out
                  rw [← HCELL.out] at h
                  rw [List.range_succ, List.map_append, cellRow, List.flatMap_append]
                  simpa [cellRow] using h
                case measure => simp [intOf]; omega
              · have h8' : (s.kind == 8) = false := by simpa using h8
                have HCELL := Lib.hid (show s.pcell 0 = ⟨pp, f.kind, false, 0, 0, s.kind⟩ by rw [HPJ.out]; simp [h8])
                have HOF := Lib.hid (own_setFar8 HOC.out (a := ⟨g, 5, none⟩) HGO.out (.int .i64 s.kind))
                clear h8
                go_wp2_with (at_builtin; refine wpList_append_own _ rfl _ _ 39 rfl w2.heap.size 42 i0 _ 6 56 t27 hi0 hz0 hz1 hz2 rfl (by decide) _ 0 (cellRow ((List.range 0).map s.pcell)) rfl (HOF.out.alloc _) ⟨_, 0, none⟩ 1 1 (cellCells ⟨pp, f.kind, false, 0, 0, s.kind⟩) rfl ?qe1 ?qe2 ?qe3 ?qe4 ?qe5 ?qe6 ?_)
                case qe1 => rfl
                case qe2 =>
                  intro i u hj
                  try rw [Addr.add_lit]
                  have hj' : i < 6 := by have := (List.getElem?_eq_some_iff.1 hj).1; simpa [cellCells] using this
                  rcases (show i = 0 ∨ i = 1 ∨ i = 2 ∨ i = 3 ∨ i = 4 ∨ i = 5 by omega) with rfl | rfl | rfl | rfl | rfl | rfl <;> (simp [cellCells] at hj; subst hj; go_simp)
                case qe3 => exact cellCells_one _
                case qe4 => unfold maxLen; omega
                case qe6 => first | omega | (simp; done) | (simp; omega)
                intro v' w9 hown hgrow hnil
                have HO1 := Lib.hid hown
                have HB1 := Lib.hid (show Below w2.heap.size w2 w9 from ((HBC.out.setCell hgb _).alloc (by first | omega | (simp; done) | (simp; omega)) _).grown hgrow (by first | omega | (simp; done) | (simp; omega)) (fun k hk => (HOF.out.lt k hk).1))
                clear hown hgrow hnil
                go_wp2
                go_roundw
                case rel =>
                  refine ⟨0 + 1, rfl, by omega, ?_, HB1.out⟩
                  have h := HO1.out
                  rw [← HCELL.out] at h
                  rw [List.range_succ, List.map_append, cellRow, List.flatMap_append]
                  simpa [cellRow] using h
                case measure => simp [intOf]; omega
            · have hj0' : ((j : Int) == 0) = false := by simp; omega
              have HCELL := Lib.hid (show s.pcell j = ⟨pp, f.kind, false, 0, 0, 0⟩ by rw [HPJ.out]; simp [hj0])
              go_wp2_with (at_builtin; refine wpList_append_own _ rfl _ _ 39 rfl w2.heap.size 42 i0 _ 6 56 t27 hi0 hz0 hz1 hz2 rfl (by decide) _ j (cellRow ((List.range j).map s.pcell)) rfl (HOC.out.alloc _) ⟨_, 0, none⟩ 1 1 (cellCells ⟨pp, f.kind, false, 0, 0, 0⟩) rfl ?qf1 ?qf2 ?qf3 ?qf4 ?qf5 ?qf6 ?_)
              case qf1 => rfl
              case qf2 =>
                intro i u hj
                try rw [Addr.add_lit]
                have hj' : i < 6 := by have := (List.getElem?_eq_some_iff.1 hj).1; simpa [cellCells] using this
                rcases (show i = 0 ∨ i = 1 ∨ i = 2 ∨ i = 3 ∨ i = 4 ∨ i = 5 by omega) with rfl | rfl | rfl | rfl | rfl | rfl <;> (simp [cellCells] at hj; subst hj; go_simp)
              case qf3 => exact cellCells_one _
              case qf4 => unfold maxLen; omega
              case qf5 => omega
              case qf6 => first | omega | (simp; done) | (simp; omega)
              intro v' w9 hown hgrow hnil
              have HO1 := Lib.hid hown
              have HB1 := Lib.hid (show Below w2.heap.size w2 w9 from (HBC.out.alloc (by first | omega | (simp; done) | (simp; omega)) _).grown hgrow (by first | omega | (simp; done) | (simp; omega)) (fun k hk => (HOC.out.lt k hk).1))
              clear hown hgrow hnil
              go_wp2
              go_roundw
              case rel =>
                refine ⟨j + 1, rfl, by omega, ?_, HB1.out⟩
                have h := HO1.out
                rw [← HCELL.out] at h
                rw [List.range_succ, List.map_append, cellRow, List.flatMap_append]
                simpa [cellRow] using h
              case measure => simp [intOf]; omega
          · have hjs : j = s.count := by omega
            have hjn : ¬ (j : Int) < fs.length := by omega
            subst hjs
            go_wp2
            go_meet
            exact ⟨own_mono8 HOW.out hz12, HB12.out.trans (HBR.out.mono hz12)⟩
  case rest =>
  obtain ⟨hown, hb⟩ := hcut
  obtain ⟨A, c, rfl, hc1, hc2⟩ := own_slice hown
  generalize hwc : wc = w2 at *
  have HOW2 := Lib.hid hown
  have HB2' := Lib.hid hb
  have hz2' := hb.size
  clear hown hb hwc
  go_wp2_with fail
  go_loopw [9] (fun i wr => FillRel w1 42 s (.slice A s.count c) i wr) (fun i _ => s.count - (intOf i).toNat)
  case atStart => exact ⟨0, rfl, Nat.zero_le _, by rw [s.upto_zero]; exact HOW2.out, HB2'.out⟩
  case round =>
    obtain ⟨j, rfl, hj, hown, hbr⟩ := hrel
    have hzr := hbr.size
    have HLR := Lib.hid (HL.out.below hbr hlt1)
    have HIR := Lib.hid (HI1.out.below hbr)
    have HBR := Lib.hid hbr
    have HOW := Lib.hid hown
    by_cases hjl : j < s.count
    · have hjl' : (j : Int) < s.count := by omega
      obtain ⟨g, cap, hv, hgl, hglt⟩ := hown.form (by omega)
      have hA : A = some ⟨g, 0, none⟩ := by injection hv
      subst hA
      have hxl : (cellRow ((List.range s.count).map (s.upto j)))[j * 6 + 2]? = some (.bool false) := (flat_get cellCells 6 cellCells_length _ j 2 (s.pcell j) (by rw [List.getElem?_map, List.getElem?_range hjl]; simp [SymD.upto]) (by omega)).trans rfl
      have hxl3 : (cellRow ((List.range s.count).map (s.upto j)))[j * 6 + 3]? = some (.int .i64 0) := (flat_get cellCells 6 cellCells_length _ j 3 (s.pcell j) (by rw [List.getElem?_map, List.getElem?_range hjl]; simp [SymD.upto]) (by omega)).trans rfl
      have hg2 : wr.cell? ⟨g, j * 6 + 2, none⟩ = some (.bool false) := (hown.cellAt (j * 6 + 2) (by omega)).trans hxl
      have hg3 : wr.cell? ⟨g, j * 6 + 3, none⟩ = some (.int .i64 0) := (hown.cellAt (j * 6 + 3) (by omega)).trans hxl3
      have fz2 := hown.frozenAt (j * 6 + 2)
      have fz3 := hown.frozenAt (j * 6 + 3)
      have hst := hown.stored (j * 6 + 2) (.bool s.retain)
      rw [s.set_half s.count j hjl] at hst
      have hst2 := hst.1.stored (j * 6 + 3) (.int .i64 (s.init.getD j 0))
      rw [s.set_full s.count j hjl] at hst2
      have HST := Lib.hid hst.1
      have HST2 := Lib.hid hst2.1
      have hgn : ¬ g = w.heap.size := by omega
      have hgm : ¬ w.heap.size = g := by omega
      clear hown hbr hv hxl hxl3 hst hst2
      obtain ⟨l0, l1, l2, l3, l4, l5, l6⟩ := HLR.out
      by_cases hin : j < s.init.length
      · have hin' : (j : Int) < s.init.length := by omega
        obtain ⟨ib, io, rfl, hil, hic'⟩ := HIR.out.2 (by omega)
        have hx : wr.cell? ⟨ib, io + j, none⟩ = some (.int .i64 (s.init.getD j 0)) := hic' j _ (by simp [List.getD_eq_getElem?_getD, List.getElem?_eq_getElem hin])
        have qg : ¬ g = ib := by omega
        have qh : ¬ ib = g := by omega
        clear hic'
        generalize s.init.getD j 0 = q at *
        go_wp2
        go_roundw
        case rel => exact ⟨j + 1, rfl, by omega, HST2.out, (HBR.out.setCell hgl _).setCell hgl _⟩
        case measure => simp [intOf]; omega
      · have HHC := Lib.hid (s.half_cell j hin)
        have hin' : ¬ (j : Int) < s.init.length := by omega
        go_wp2
        go_roundw
        case rel =>
          refine ⟨j + 1, rfl, by omega, ?_, HBR.out.setCell hgl _⟩
          have h := HST.out
          rw [HHC.out, s.upto_set s.count j hjl] at h
          exact h
        case measure => simp [intOf]; omega
    · have hjs : j = s.count := by omega
      subst hjs
      clear hown hbr
      go_wp2
      go_ret
      refine ⟨⟨A, c, rfl, hc1, hc2, ?_⟩, HB0.out.trans (HBR.out.mono (Nat.le_of_lt hlt1))⟩
      have h := HOW.out
      rw [s.upto_all] at h
      exact Row.of_own h
/-- The document's cells of variables. -/
def RCellsRel (w : World) (l : List SymD) (out i : Value) (wr : World) : Prop :=
  ∃ k : Nat, i = .int .i64 k ∧ k ≤ l.length ∧ wr.ownsRow w.heap.size 42 6 out (cellsOf (l.take k)).length (cellRow (cellsOf (l.take k))) ∧ Below w.heap.size w wr
set_option maxHeartbeats 8000000 in
set_option maxRecDepth 100000 in
theorem rcells_any (A : Option Addr) (n c : Nat) (l : List SymD) (w : World) (hs : Syms w w.heap.size A n l) (hn : n ≤ 10000) (hc : n ≤ c) (hcm : c ≤ 9223372036854775807) (hz : ∀ s ∈ l, s.size ≤ 64) :
    Calls Tryd.prog 25 #[.slice A n c] w fun e w' => ∃ v, e = .returned v ∧ w'.ownsRow w.heap.size 42 6 v (cellsOf l).length (cellRow (cellsOf l)) ∧ Below w.heap.size w w' := by
  obtain ⟨i0, hi, hz0, hz1, hz2⟩ := info_parts cellInfo8
  have t27 := cellTy8
  have hnl := hs.len
  subst hnl
  have HS := Lib.hid hs
  have HZ := Lib.hid hz
  clear hs hz
  have hl' : (l.length : Int) ≤ 10000 := by omega
  go_enter Tryd.func25, Tryd.ntmps25
  go_wp2_with fail
  go_loopw [3, 4] (fun out i wr => RCellsRel w l out i wr) (fun _ i _ => l.length - (intOf i).toNat)
  case atStart => exact ⟨0, rfl, Nat.zero_le _, World.ownsRow_nil _ _ _ _, Below.refl _ _⟩
  case round =>
    obtain ⟨k, rfl, hk, hown, hb⟩ := hrel
    have HOW := Lib.hid hown
    have HB := Lib.hid hb
    have hzw := hb.size
    by_cases hlt : k < l.length
    · have hlt' : (k : Int) < l.length := by omega
      obtain ⟨s, hsk⟩ : ∃ s, l[k]? = some s := ⟨_, List.getElem?_eq_getElem hlt⟩
      have hok := HS.out.ok s (List.mem_of_getElem? hsk)
      have hsz := HZ.out s (List.mem_of_getElem? hsk)
      obtain ⟨b, off, hA, hbl, hat⟩ := HS.out.at_ (by omega)
      obtain ⟨Fa, Fc, Ia, Ic, k0, k1, k2, k3, k4, k5, k6, hF, hFc, hFm, hI, hIc, hIm⟩ := (hat k s hsk).below hb hbl
      subst hA
      have OF := Lib.hid (rof_any s Fa Fc Ia Ic wr (hF.more hzw) hFc hFm (hI.more hzw) hIc hIm hok hsz)
      have HSK := Lib.hid hsk
      have h64 := s.count_le
      have hll := cellsOf_length_le (l.take k)
      have htk : (l.take k).length ≤ 10000 := by rw [List.length_take]; omega
      have HLL := Lib.hid (show (cellsOf (l.take k)).length ≤ 640000 by omega)
      clear hown hb hat hF hI hsk hok hsz hll htk
      go_wp2_with fail
      refine OF.out.mono ?_
      rintro e w2 ⟨⟨R, c', rfl, hcc, hcm', hrow⟩, hb2⟩
      have hz2w := hb2.size
      have HO2 := Lib.hid (row_keep HOW.out hb2)
      have HR2 := Lib.hid hrow
      have HB2 := Lib.hid (HB.out.trans (hb2.mono hzw))
      have hzz : w.heap.size ≤ w2.heap.size := by omega
      clear hrow hb2
      go_wp2_with (at_builtin; refine wpList_append_row _ rfl _ _ 39 rfl w.heap.size 42 i0 _ 6 56 t27 hi hz0 hz1 hz2 rfl (by decide) _ _ _ rfl HO2.out w2.heap.size R s.count c' (cellRow s.cells) rfl HR2.out (flat_one _ cellCells_one _) ?qa1 ?qa2 ?qa3 ?_)
      case qa1 => have := HLL.out; unfold maxLen; omega
      case qa2 => have := HLL.out; omega
      case qa3 => first | omega | (simp; done) | (simp; omega)
      intro v' w9 hown hgrow hat
      have HO9 := Lib.hid hown
      have HB9 := Lib.hid (show Below w.heap.size w w9 from HB2.out.grown hgrow (by omega) (fun k hk => (HO2.out.lt k hk).1))
      clear hown hgrow hat
      go_wp2
      go_roundw
      case rel =>
        have e1 : cellsOf (l.take (k + 1)) = cellsOf (l.take k) ++ s.cells := by
          rw [List.take_add_one, HSK.out]
          simp [cellsOf]
        have e2 : (cellsOf (l.take (k + 1))).length = (cellsOf (l.take k)).length + s.count := by rw [e1, List.length_append, s.cells_length]
        have e3 : cellRow (cellsOf (l.take (k + 1))) = cellRow (cellsOf (l.take k)) ++ cellRow s.cells := by rw [e1]; simp [cellRow]
        refine ⟨k + 1, rfl, by omega, ?_, HB9.out⟩
        rw [e2, e3]
        exact HO9.out
      case measure => simp [intOf]; omega
    · have hkl : k = l.length := by omega
      subst hkl
      clear hown hb
      go_wp2
      go_ret
      have h := HOW.out
      rw [List.take_length] at h
      exact ⟨_, rfl, h, HB.out⟩
end Go.Proofs.YtngobbbinacomaaDoor
