/- Chapters 7 and 8, what the laws call besides: within, Few. -/
import Derived.Test.YtgeeicgdgncmpaaDoorE8
import Derived.Test.YtgeeicgdgncmpaaDoorO8
import Derived.BigGuardPart
import Derived.Deep.QuietTactic
import Derived.BigQuiet
namespace Go.Proofs.YtgeeicgdgncmpaaDoor
open Go.RowKit
set_option linter.unusedVariables false
set_option linter.unusedSimpArgs false

/-- within(a, n) is a modulo n, from 0 on. -/
theorem within7_any (a n : Int) (hn : 0 < n) (hn' : n ≤ 4611686018427387904) (w : World) :
    Calls Tryd.prog 22 #[.int .i64 a, .int .i64 n] w fun e w' => e = .returned (.int .i64 (a % n)) ∧ w = w' := by
  have h1 := Int.emod_nonneg a (show n ≠ 0 by omega)
  have h2 := Int.emod_lt_of_pos a hn
  have h3 : a.tmod n = if 0 ≤ a ∨ a % n = 0 then a % n else a % n - n := by
    rw [Int.tmod_eq_emod]
    by_cases h : 0 ≤ a ∨ n ∣ a
    · rw [if_pos h, if_pos]
      · omega
      · rcases h with h | h
        · exact .inl h
        · exact .inr (Int.emod_eq_zero_of_dvd h)
    · rw [if_neg h, if_neg]
      · rw [Int.natAbs_of_nonneg (by omega)]
      · intro hh
        rcases hh with hh | hh
        · exact h (.inl hh)
        · exact h (.inr (Int.dvd_of_emod_eq_zero hh))
  have h4 : ¬ n = 0 := by omega
  by_cases hneg : a.tmod n < 0
  · have H : Hid (a.tmod n + n = a % n) := Lib.hid (by split at h3 <;> omega)
    have hb : -n < a.tmod n := by split at h3 <;> omega
    clear h3 h1 h2
    go_enter Tryd.func22, Tryd.ntmps22
    go_wp2
    go_ret
    exact ⟨qret H.out, rfl⟩
  · have H : Hid (a.tmod n = a % n) := Lib.hid (by split at h3 <;> omega)
    clear h3 h1 h2
    go_enter Tryd.func22, Tryd.ntmps22
    go_wp2
    go_ret
    exact ⟨qret H.out, rfl⟩


def Few7Rel (w : World) (tb : Nat) (T : Value) (l : List FieldD) (i : Value) (wr : World) : Prop :=
  ∃ j : Nat, i = .int .i64 j ∧ j ≤ l.length ∧ (∀ (q : Nat) (f : FieldD), q < j → l[q]? = some f → f.name.size ≤ 20) ∧ wr.cell? ⟨tb, 3, none⟩ = some T ∧ Below w.heap.size w wr ∧ tb < wr.heap.size

set_option maxHeartbeats 4000000 in
set_option maxRecDepth 100000 in
/-- A type that is not too much. -/
theorem few7_any (k e n : Int) (A : Option Addr) (m c : Nat) (l : List FieldD) (w : World) (hr : Row w w.heap.size 2 A m (fieldRow l)) (hml : m = l.length) (hc : m ≤ c) (hcm : c ≤ 9223372036854775807) (hnm : ∀ f ∈ l, f.name.size ≤ 9223372036854775807) :
    Calls Tryd.prog 12 #[.agg #[.int .i64 k, .int .i64 e, .int .i64 n, .slice A m c]] w fun e' w' => (∃ b : Bool, e' = .returned (.bool b) ∧ (b = true → l.length ≤ 9 ∧ ∀ f ∈ l, f.name.size ≤ 20)) ∧ Below w.heap.size w w' := by
  subst hml
  have HR := Lib.hid hr
  have HN := Lib.hid hnm
  have hc' : (l.length : Int) ≤ c := by omega
  have hc2 : (c : Int) ≤ 9223372036854775807 := by omega
  clear hr hnm
  go_enter Tryd.func12, Tryd.ntmps12
  go_wp2_with fail
  go_loopw [3] (fun i wr => Few7Rel w w.heap.size (.slice A l.length c) l i wr) (fun i _ => l.length - (intOf i).toNat)
  case atStart => exact ⟨0, rfl, Nat.zero_le _, fun q f h => absurd h (by omega), by go_simp, (Below.refl _ w).alloc (Nat.le_refl _) _, by simp⟩
  case round =>
    obtain ⟨j, rfl, hj, hno, ht, hb, htb⟩ := hrel
    have HB := Lib.hid hb
    have HNO := Lib.hid hno
    clear hno
    by_cases hjl : j < l.length
    · have hj1 : (j : Int) < l.length := by omega
      obtain ⟨x, hx⟩ : ∃ x, l[j]? = some x := ⟨_, List.getElem?_eq_getElem hjl⟩
      obtain ⟨b, off, rfl, hbl, hcell⟩ := HR.out.2 (by omega)
      have e1 : wr.cell? ⟨b, off + j * 2, none⟩ = some (.string x.name) := (dcell hb hbl _).trans (hcell (j * 2) _ ((flat_get fieldCells 2 fieldCells_length l j 0 x hx (by omega)).trans rfl))
      have hsz := HN.out x (List.mem_of_getElem? hx)
      have hsz' : (x.name.size : Int) ≤ 9223372036854775807 := by omega
      have HX := Lib.hid hx
      clear hcell hx hb
      by_cases h20 : x.name.size ≤ 20
      · have h20' : (x.name.size : Int) ≤ 20 := by omega
        go_wp2
        go_roundw
        case rel =>
          refine ⟨j + 1, rfl, by omega, fun q f hq hf => ?_, by first | exact ht | go_simp, HB.out, htb⟩
          by_cases hqj : q < j
          · exact HNO.out q f hqj hf
          · obtain rfl : q = j := by omega
            rw [HX.out] at hf
            injection hf with hf
            subst hf
            exact h20
        case measure => simp [intOf]; omega
      · have h20' : (20 : Int) < x.name.size := by omega
        go_wp2
        go_ret
        exact ⟨⟨false, rfl, fun h => by cases h⟩, HB.out⟩
    · obtain rfl : j = l.length := by omega
      have hall : ∀ f ∈ l, f.name.size ≤ 20 := fun f hf => by
        obtain ⟨q, hq, rfl⟩ := List.getElem_of_mem hf
        exact HNO.out q _ hq (List.getElem?_eq_getElem hq)
      have HA := Lib.hid hall
      clear hall hb
      by_cases h9 : l.length ≤ 9
      · have h9' : (l.length : Int) ≤ 9 := by omega
        go_wp2
        go_ret
        exact ⟨⟨true, by simp [h9'], fun _ => ⟨h9, HA.out⟩⟩, HB.out⟩
      · have h9' : (9 : Int) < l.length := by omega
        go_wp2
        go_ret
        exact ⟨⟨false, by simp; omega, fun h => by cases h⟩, HB.out⟩

/-- What Few tells of a variable. -/
structure SymD.Small (s : SymD) : Prop where
  name : s.name.size ≤ 20
  fields : s.fields.length ≤ 9
  fnames : ∀ f ∈ s.fields, f.name.size ≤ 20
  init : s.init.length ≤ 40

def Few8Rel (w : World) (l : List SymD) (i : Value) (wr : World) : Prop :=
  ∃ j : Nat, i = .int .i64 j ∧ j ≤ l.length ∧ (∀ (q : Nat) (s : SymD), q < j → l[q]? = some s → s.Small) ∧ Below w.heap.size w wr

set_option maxHeartbeats 4000000 in
set_option maxRecDepth 100000 in
/-- Variables that are not too much. -/
theorem few8_any (A : Option Addr) (n c : Nat) (l : List SymD) (w : World) (hs : SymsRaw w w.heap.size A n l) (hc : n ≤ c) (hcm : c ≤ 9223372036854775807) :
    Calls Tryd.prog 6 #[.slice A n c] w fun e' w' => (∃ b : Bool, e' = .returned (.bool b) ∧ (b = true → l.length ≤ 16 ∧ ∀ s ∈ l, s.Small)) ∧ Below w.heap.size w w' := by
  obtain rfl := hs.len
  have HS := Lib.hid hs
  have hc' : (l.length : Int) ≤ c := by omega
  have hc2 : (c : Int) ≤ 9223372036854775807 := by omega
  clear hs
  go_enter Tryd.func6, Tryd.ntmps6
  go_wp2_with fail
  go_loopw [3] (fun i wr => Few8Rel w l i wr) (fun i _ => l.length - (intOf i).toNat)
  case atStart => exact ⟨0, rfl, Nat.zero_le _, fun q f h => absurd h (by omega), Below.refl _ _⟩
  case round =>
    obtain ⟨j, rfl, hj, hno, hb⟩ := hrel
    have HB := Lib.hid hb
    have HNO := Lib.hid hno
    clear hno
    by_cases hjl : j < l.length
    · have hj1 : (j : Int) < l.length := by omega
      obtain ⟨s, hx⟩ : ∃ s, l[j]? = some s := ⟨_, List.getElem?_eq_getElem hjl⟩
      obtain ⟨b, off, rfl, hbl, hcell⟩ := HS.out.at_ (by omega)
      have hraw := HS.out.raw s (List.mem_of_getElem? hx)
      obtain ⟨Fa, Fc, Ia, Ic, c0, c1, c2, c3, c4, c5, c6, hF, hF1, hF2, hI, hI1, hI2⟩ := (hcell j s hx).below hb hbl
      have hsz := hraw.name
      have hsz' : (s.name.size : Int) ≤ 9223372036854775807 := by omega
      have hil : (s.init.length : Int) ≤ Ic := by omega
      have hi2 : (Ic : Int) ≤ 9223372036854775807 := by omega
      have F7 := Lib.hid (fun u (h : Row u u.heap.size 2 Fa s.fields.length (fieldRow s.fields)) => few7_any s.kind s.elem s.n Fa s.fields.length Fc s.fields u h rfl hF1 hF2 (fun f hf => (hraw.fields f hf).1))
      have HFR := Lib.hid (hF.more hb.size)
      have HX := Lib.hid hx
      have hbw : b < wr.heap.size := by have := hb.size; omega
      clear hcell hx hb hF hI hraw hF1 hF2 hI1 hI2
      by_cases h20 : s.name.size ≤ 20
      · have h20' : (s.name.size : Int) ≤ 20 := by omega
        have h20f : decide ((20 : Int) < s.name.size) = false := by simp; omega
        go_wp2_with fail
        refine (F7.out _ HFR.out).mono ?_
        rintro e u ⟨⟨bb, rfl, hbb⟩, hbu⟩
        have c6u := (dcell hbu hbw (off + j * 7 + 6)).trans c6
        have HBU := Lib.hid (HB.out.trans (hbu.mono HB.out.size))
        have HBB := Lib.hid hbb
        clear hbu hbb
        cases bb with
        | false =>
          go_wp2
          go_ret
          exact ⟨⟨false, rfl, fun h => by cases h⟩, HBU.out⟩
        | true =>
          by_cases h40 : s.init.length ≤ 40
          · have h40' : (s.init.length : Int) ≤ 40 := by omega
            go_wp2
            go_roundw
            case rel =>
              refine ⟨j + 1, rfl, by omega, fun q f hq hf => ?_, HBU.out⟩
              by_cases hqj : q < j
              · exact HNO.out q f hqj hf
              · obtain rfl : q = j := by omega
                rw [HX.out] at hf
                injection hf with hf
                subst hf
                exact ⟨h20, (HBB.out trivial).1, (HBB.out trivial).2, h40⟩
            case measure => simp [intOf]; omega
          · have h40' : (40 : Int) < s.init.length := by omega
            go_wp2
            go_ret
            exact ⟨⟨false, rfl, fun h => by cases h⟩, HBU.out⟩
      · have h20' : (20 : Int) < s.name.size := by omega
        have h20f : decide ((20 : Int) < s.name.size) = true := by simp; omega
        go_wp2
        go_ret
        exact ⟨⟨false, rfl, fun h => by cases h⟩, HB.out⟩
    · obtain rfl : j = l.length := by omega
      have hall : ∀ s ∈ l, s.Small := fun f hf => by
        obtain ⟨q, hq, rfl⟩ := List.getElem_of_mem hf
        exact HNO.out q _ hq (List.getElem?_eq_getElem hq)
      have HA := Lib.hid hall
      clear hall hb
      by_cases h9 : l.length ≤ 16
      · have h9' : (l.length : Int) ≤ 16 := by omega
        go_wp2
        go_ret
        exact ⟨⟨true, by simp [h9'], fun _ => ⟨h9, HA.out⟩⟩, HB.out⟩
      · have h9' : (16 : Int) < l.length := by omega
        go_wp2
        go_ret
        exact ⟨⟨false, by simp; omega, fun h => by cases h⟩, HB.out⟩
end Go.Proofs.YtgeeicgdgncmpaaDoor
