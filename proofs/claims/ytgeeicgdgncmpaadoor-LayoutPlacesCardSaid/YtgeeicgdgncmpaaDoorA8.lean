/- Fields and sizes of types, as they are computed: kinds.Fields, kinds.Size of any type. -/
import Derived.Test.YtgeeicgdgncmpaaDoorRow
import Derived.Test.YtgeeicgdgncmpaaDoorRows
import Derived.WalkKit
import Derived.Deep.DrawnRows
import Derived.Lib.Hide
import Derived.Lib.SliceRun
namespace Go.Proofs.YtgeeicgdgncmpaaDoor
open Go.RowKit
set_option linter.unusedVariables false
set_option linter.unusedSimpArgs false

theorem qret {k : IntKind} {a b : Int} (h : a = b) : Ending.returned (.int k a) = .returned (.int k b) := by rw [h]

/-- A row of equal pieces. -/
theorem flat_get {α : Type} (f : α → List Value) (n : Nat) (hf : ∀ x, (f x).length = n) : ∀ (l : List α) (i j : Nat) (x : α), l[i]? = some x → j < n → (l.flatMap f)[i * n + j]? = (f x)[j]? := by
  intro l
  induction l with
  | nil => intro i j x h; simp at h
  | cons y l ih =>
    intro i j x h hj
    rw [List.flatMap_cons]
    cases i with
    | zero =>
      simp at h
      subst h
      rw [Nat.zero_mul, Nat.zero_add, List.getElem?_append_left (by rw [hf]; exact hj)]
    | succ i =>
      simp at h
      rw [List.getElem?_append_right (by rw [hf, Nat.succ_mul]; omega), hf]
      have e : (i + 1) * n + j - n = i * n + j := by rw [Nat.succ_mul]; omega
      rw [e]
      exact ih i j x h hj
theorem flat_length {α : Type} (f : α → List Value) (n : Nat) (hf : ∀ x, (f x).length = n) (l : List α) : (l.flatMap f).length = l.length * n := by
  induction l with
  | nil => simp
  | cons y l ih => rw [List.flatMap_cons, List.length_append, hf, ih, List.length_cons, Nat.succ_mul, Nat.add_comm]
theorem flat_one {α : Type} (f : α → List Value) (hf : ∀ x, ∀ u ∈ f x, u.oneCell' = true) (l : List α) : ∀ u ∈ l.flatMap f, u.oneCell' = true := by
  intro u hu
  obtain ⟨x, _, hx⟩ := List.mem_flatMap.1 hu
  exact hf x u hx

structure FieldD where
  name : ByteArray
  kind : Int

def fieldCells (f : FieldD) : List Value := [.string f.name, .int .i64 f.kind]
def fieldRow (l : List FieldD) : List Value := l.flatMap fieldCells
theorem fieldCells_length (f : FieldD) : (fieldCells f).length = 2 := rfl
theorem fieldCells_one (f : FieldD) : ∀ u ∈ fieldCells f, u.oneCell' = true := by
  intro u hu; simp [fieldCells] at hu; rcases hu with rfl | rfl <;> rfl

def tonF : List FieldD := [⟨{ data := #[73, 78] }, 1⟩, ⟨{ data := #[80, 84] }, 6⟩, ⟨{ data := #[81] }, 1⟩, ⟨{ data := #[69, 84] }, 6⟩, ⟨{ data := #[84, 48] }, 6⟩, ⟨{ data := #[82, 85, 78] }, 1⟩]
def ctuF : List FieldD := [⟨{ data := #[67, 85] }, 1⟩, ⟨{ data := #[82] }, 1⟩, ⟨{ data := #[80, 86] }, 5⟩, ⟨{ data := #[81] }, 1⟩, ⟨{ data := #[67, 86] }, 5⟩, ⟨{ data := #[79, 76, 68] }, 1⟩]

/-- The fields that a type has: its own, a timer's, a counter's. -/
def fieldsOf (k : Int) (l : List FieldD) : List FieldD := if k = 8 then l else if k = 9 then tonF else if k = 10 then ctuF else []
/-- How many cells. -/
def sizeOf8 (k n : Int) (l : List FieldD) : Int := if 1 ≤ k ∧ k ≤ 6 then 1 else if k = 7 then n else (fieldsOf k l).length

theorem fieldInfo8 : (Tryd.prog.info? 39).map (fun i => (i.zero, i.size, i.bytes)) = some (some (.agg #[.string { data := #[] }, .int .i64 0]), 2, 24) := by kernel_rfl
theorem fieldTy8 : Tryd.prog.underlying 29 = some (.slice 39) := by kernel_rfl

/-- What a call that makes a row of fields tells. -/
def RowBack (B size : Nat) (n : Nat) (xs : List Value) (w : World) (e : Ending) (w' : World) : Prop :=
  (∃ R c, e = .returned (.slice R n c) ∧ n ≤ c ∧ c ≤ 9223372036854775807 ∧ Row w' w'.heap.size size R n xs) ∧ Below B w w'

set_option maxHeartbeats 1000000 in
theorem cloneF_any (A : Option Addr) (n c : Nat) (xs : List Value) (w : World) (hr : Row w w.heap.size 2 A n xs) (h1 : ∀ u ∈ xs, u.oneCell' = true) (hn : n ≤ 1000000) (hc : n ≤ c) (hcm : c ≤ 9223372036854775807) :
    Calls Tryd.prog 30 #[.slice A n c] w (RowBack w.heap.size 2 n xs w) := by
  obtain ⟨i0, hi, hz0, hz1, hz2⟩ := info_parts fieldInfo8
  have t27 := fieldTy8
  have q27 : ∀ (w : World) (a : Option Addr) (n c n' c' : Nat), (binOp .eql 29 (.slice a n c) (.slice none n' c')).run Tryd.prog w = .ok (.bool a.isNone) w := fun w a n c n' c' => Lib.run_eql_slice_nil w _ _ a n c n' c' t27
  have HR := Lib.hid hr
  have H1 := Lib.hid h1
  rcases A with _ | a
  · have hn0 : n = 0 := by
      rcases Nat.eq_zero_or_pos n with h | h
      · exact h
      · obtain ⟨_, _, h', _⟩ := hr.2 h; cases h'
    have hx : xs = [] := List.eq_nil_of_length_eq_zero (by rw [hr.1, hn0])
    clear hr h1
    subst hn0 hx
    go_enter Tryd.func30, Tryd.ntmps30
    go_wp2
    go_ret
    exact ⟨⟨none, 0, rfl, Nat.le_refl _, by omega, Row.nil⟩, Below.refl _ _⟩
  · clear hr h1
    go_enter Tryd.func30, Tryd.ntmps30
    go_wp2_with (at_builtin; refine wpList_append_row _ rfl _ _ 29 rfl w.heap.size 39 i0 _ 2 24 t27 hi hz0 hz1 hz2 rfl (by decide) _ _ _ rfl (World.ownsRow_made w #[] 0 (Nat.le_refl _) (Nat.zero_le _) rfl) w.heap.size (some a) n c xs rfl (HR.out.alloc (Nat.le_refl _) _) H1.out ?qc4 ?qc5 ?qc6 ?_)
    case qc4 => unfold maxLen; omega
    case qc5 => omega
    case qc6 => simp
    intro v' w1 hown hgrow hat
    have hb : Below w.heap.size w w1 := ((Below.refl _ w).alloc (Nat.le_refl _) _).grown hgrow (by simp) (by intro k hk; simp [Value.ownBlock] at hk; omega)
    obtain ⟨R, c', rfl, hcc, hcm'⟩ := own_slice hown
    have HRow := Lib.hid (show Row w1 w1.heap.size 2 R n xs by have := Row.of_own hown; simpa using this)
    have HB := Lib.hid hb
    have HC := Lib.hid (show n ≤ c' by omega)
    have HM := Lib.hid hcm'
    clear hown hgrow hat hb hcc hcm'
    go_wp2
    go_ret
    exact ⟨⟨R, c', by simp, HC.out, HM.out, HRow.out⟩, HB.out⟩

set_option maxHeartbeats 1000000 in
theorem rowF_any (A : Option Addr) (n c : Nat) (xs : List Value) (w : World) (hr : Row w w.heap.size 2 A n xs) (h1 : ∀ u ∈ xs, u.oneCell' = true) (hn : n ≤ 1000000) (hc : n ≤ c) (hcm : c ≤ 9223372036854775807) :
    Calls Tryd.prog 28 #[.slice A n c] w (RowBack w.heap.size 2 n xs w) := by
  have C := Lib.hid (cloneF_any A n c xs w hr h1 hn hc hcm)
  clear hr h1
  go_enter Tryd.func28, Tryd.ntmps28
  go_wp2_with fail
  refine C.out.mono ?_
  rintro e w1 ⟨⟨R, c', rfl, hcc, hcm', hrow⟩, hb⟩
  have HB := Lib.hid hb
  have HR := Lib.hid hrow
  have HC := Lib.hid hcc
  have HM := Lib.hid hcm'
  clear hb hrow hcc hcm'
  go_wp2
  go_ret
  exact ⟨⟨R, c', rfl, HC.out, HM.out, HR.out⟩, HB.out⟩

set_option maxHeartbeats 2000000 in
theorem fieldsT_any (k e n : Int) (A : Option Addr) (m c : Nat) (l : List FieldD) (w : World) (hr : Row w w.heap.size 2 A m (fieldRow l)) (hm : m ≤ 1000000) (hml : m = l.length) (hc : m ≤ c) (hcm : c ≤ 9223372036854775807) :
    Calls Tryd.prog 25 #[.agg #[.int .i64 k, .int .i64 e, .int .i64 n, .slice A m c]] w (RowBack w.heap.size 2 (fieldsOf k l).length (fieldRow (fieldsOf k l)) w) := by
  subst hml
  by_cases h8 : k = 8
  · subst h8
    have C := Lib.hid (fun u (h : Row u u.heap.size 2 A l.length (fieldRow l)) => rowF_any A l.length c (fieldRow l) u h (flat_one _ fieldCells_one _) hm hc hcm)
    have HR := Lib.hid hr
    clear hr
    go_enter Tryd.func25, Tryd.ntmps25
    go_wp2_with fail
    refine (C.out _ ((HR.out.alloc (Nat.le_refl _) _).more (by simp))).mono ?_
    rintro e w1 ⟨⟨R, c', rfl, hcc, hcm', hrow⟩, hb⟩
    have HB := Lib.hid hb
    have HR := Lib.hid hrow
    have HC := Lib.hid hcc
    have HM := Lib.hid hcm'
    clear hb hrow hcc hcm'
    go_wp2
    go_ret
    refine ⟨⟨R, c', rfl, HC.out, HM.out, HR.out⟩, ?_⟩
    exact ((Below.refl _ w).alloc (Nat.le_refl _) _).trans (HB.out.mono (by simp))
  · have h8' : (k == 8) = false := by simpa using h8
    clear hr
    by_cases h9 : k = 9
    · subst h9
      clear h8 h8'
      go_enter Tryd.func25, Tryd.ntmps25
      go_wp2_with fail
      refine (rowF_any _ 6 6 (fieldRow tonF) _ ⟨rfl, fun _ => ⟨_, 0, rfl, ?_, ?_⟩⟩ (flat_one _ fieldCells_one _) (by omega) (by omega) (by omega)).mono ?_
      · simp
      · intro j u hj
        have hj' : j < 12 := by have := (List.getElem?_eq_some_iff.1 hj).1; simpa [fieldRow, tonF, fieldCells] using this
        rcases (show j = 0 ∨ j = 1 ∨ j = 2 ∨ j = 3 ∨ j = 4 ∨ j = 5 ∨ j = 6 ∨ j = 7 ∨ j = 8 ∨ j = 9 ∨ j = 10 ∨ j = 11 by omega) with rfl | rfl | rfl | rfl | rfl | rfl | rfl | rfl | rfl | rfl | rfl | rfl <;> (simp [fieldRow, tonF, fieldCells] at hj; subst hj; go_simp)
      rintro e w1 ⟨⟨R, c', rfl, hcc, hcm', hrow⟩, hb⟩
      have HB := Lib.hid hb
      have HR := Lib.hid hrow
      have HC := Lib.hid hcc
      have HM := Lib.hid hcm'
      clear hb hrow hcc hcm'
      go_wp2
      go_ret
      refine ⟨⟨R, c', rfl, HC.out, HM.out, HR.out⟩, ?_⟩
      exact (((Below.refl _ w).alloc (Nat.le_refl _) _).alloc (by simp) _).trans (HB.out.mono (by simp; omega))
    · have h9' : (k == 9) = false := by simpa using h9
      by_cases h10 : k = 10
      · subst h10
        clear h8 h8' h9 h9'
        go_enter Tryd.func25, Tryd.ntmps25
        go_wp2_with fail
        refine (rowF_any _ 6 6 (fieldRow ctuF) _ ⟨rfl, fun _ => ⟨_, 0, rfl, ?_, ?_⟩⟩ (flat_one _ fieldCells_one _) (by omega) (by omega) (by omega)).mono ?_
        · simp
        · intro j u hj
          have hj' : j < 12 := by have := (List.getElem?_eq_some_iff.1 hj).1; simpa [fieldRow, ctuF, fieldCells] using this
          rcases (show j = 0 ∨ j = 1 ∨ j = 2 ∨ j = 3 ∨ j = 4 ∨ j = 5 ∨ j = 6 ∨ j = 7 ∨ j = 8 ∨ j = 9 ∨ j = 10 ∨ j = 11 by omega) with rfl | rfl | rfl | rfl | rfl | rfl | rfl | rfl | rfl | rfl | rfl | rfl <;> (simp [fieldRow, ctuF, fieldCells] at hj; subst hj; go_simp)
        rintro e w1 ⟨⟨R, c', rfl, hcc, hcm', hrow⟩, hb⟩
        have HB := Lib.hid hb
        have HR := Lib.hid hrow
        have HC := Lib.hid hcc
        have HM := Lib.hid hcm'
        clear hb hrow hcc hcm'
        go_wp2
        go_ret
        refine ⟨⟨R, c', rfl, HC.out, HM.out, HR.out⟩, ?_⟩
        exact (((Below.refl _ w).alloc (Nat.le_refl _) _).alloc (by simp) _).trans (HB.out.mono (by simp; omega))
      · have h10' : (k == 10) = false := by simpa using h10
        rw [show fieldsOf k l = [] by simp [fieldsOf, h8, h9, h10]]
        go_enter Tryd.func25, Tryd.ntmps25
        go_wp2
        go_ret
        exact ⟨⟨none, 0, rfl, Nat.le_refl _, by omega, Row.nil⟩, (Below.refl _ w).alloc (Nat.le_refl _) _⟩

/-- Is it a kind of values? -/
def isVal (k : Int) : Bool := decide (1 ≤ k) && decide (k ≤ 6)

theorem valueK_any (k : Int) (w : World) : Calls Tryd.prog 24 #[.int .i64 k] w fun e w' => e = .returned (.bool (isVal k)) ∧ w = w' := by
  by_cases h1 : 1 ≤ k
  · by_cases h2 : k ≤ 6
    · go_enter Tryd.func24, Tryd.ntmps24
      go_wp2
      go_ret
      exact ⟨by simp [isVal, h1, h2], rfl⟩
    · have h2' : decide (k ≤ 6) = false := by simpa using h2
      go_enter Tryd.func24, Tryd.ntmps24
      go_wp2
      go_ret
      exact ⟨by simp [isVal, h1, h2], rfl⟩
  · have h1' : decide (1 ≤ k) = false := by simpa using h1
    go_enter Tryd.func24, Tryd.ntmps24
    go_wp2
    go_ret
    exact ⟨by simp [isVal]; omega, rfl⟩

set_option maxHeartbeats 2000000 in
theorem sizeT_any (k e n : Int) (A : Option Addr) (m c : Nat) (l : List FieldD) (w : World) (hr : Row w w.heap.size 2 A m (fieldRow l)) (hm : m ≤ 1000000) (hml : m = l.length) (hc : m ≤ c) (hcm : c ≤ 9223372036854775807) :
    Calls Tryd.prog 16 #[.agg #[.int .i64 k, .int .i64 e, .int .i64 n, .slice A m c]] w fun e' w' => e' = .returned (.int .i64 (sizeOf8 k n l)) ∧ Below w.heap.size w w' := by
  by_cases hv : 1 ≤ k ∧ k ≤ 6
  · have hv' : isVal k = true := by simp [isVal, hv]
    have V := Lib.hid (fun u => valueK_any k u)
    rw [hv'] at V
    rw [show sizeOf8 k n l = 1 by simp [sizeOf8, hv]]
    clear hr hv'
    go_enter Tryd.func16, Tryd.ntmps16
    go_wp2_with fail
    refine (V.out _).mono ?_
    rintro e _ ⟨rfl, rfl⟩
    go_wp2
    go_ret
    exact ⟨rfl, (Below.refl _ w).alloc (Nat.le_refl _) _⟩
  · have hv' : isVal k = false := by
      simp only [isVal, Bool.and_eq_false_iff, decide_eq_false_iff_not]
      omega
    have V := Lib.hid (fun u => valueK_any k u)
    rw [hv'] at V
    by_cases h7 : k = 7
    · subst h7
      clear hr hv' hv
      go_enter Tryd.func16, Tryd.ntmps16
      go_wp2_with fail
      refine (V.out _).mono ?_
      rintro e _ ⟨rfl, rfl⟩
      go_wp2
      go_ret
      exact ⟨rfl, (Below.refl _ w).alloc (Nat.le_refl _) _⟩
    · have h7' : (k == 7) = false := by simpa using h7
      have F := Lib.hid (fun u (h : Row u u.heap.size 2 A m (fieldRow l)) => fieldsT_any k e n A m c l u h hm hml hc hcm)
      rw [show sizeOf8 k n l = (fieldsOf k l).length by simp [sizeOf8, hv, h7]]
      have HR := Lib.hid hr
      clear hr hv' hv hml
      go_enter Tryd.func16, Tryd.ntmps16
      go_wp2_with fail
      refine (V.out _).mono ?_
      rintro e _ ⟨rfl, rfl⟩
      go_wp2_with fail
      refine (F.out _ ((HR.out.alloc (Nat.le_refl _) _).more (by simp))).mono ?_
      rintro e w1 ⟨⟨R, c', rfl, hcc, hcm', hrow⟩, hb⟩
      have HB := Lib.hid hb
      clear hb hrow hcc hcm'
      go_wp2
      go_ret
      exact ⟨rfl, ((Below.refl _ w).alloc (Nat.le_refl _) _).trans (HB.out.mono (by simp))⟩
end Go.Proofs.YtgeeicgdgncmpaaDoor
