/- The kind and the path of a variable's cell. -/
import Derived.Test.YtgeeicgdgncmpaaDoorA8
import Derived.Test.YtgeeicgdgncmpaaDoorItoa
import Derived.Deep.QuietTactic
import Derived.BigQuiet
namespace Go.Proofs.YtgeeicgdgncmpaaDoor
open Go.RowKit
set_option linter.unusedVariables false
set_option linter.unusedSimpArgs false

theorem dcell {W w1 : World} {B : Nat} (hb : Below B W w1) {b : Nat} (h : b < B) (o : Nat) : w1.cell? ⟨b, o, none⟩ = W.cell? ⟨b, o, none⟩ := hb.cell (p := ⟨b, o, none⟩) h

def kindOf (k e : Int) (l : List FieldD) (i : Nat) : Int := if k = 7 then e else match (fieldsOf k l)[i]? with | some f => f.kind | none => k
def pathOf (nm : ByteArray) (k : Int) (l : List FieldD) (i : Nat) : ByteArray :=
  if k = 7 then nm ++ { data := #[91] } ++ digits2 i ++ { data := #[93] } else match (fieldsOf k l)[i]? with | some f => nm ++ { data := #[46] } ++ f.name | none => nm

theorem fieldsOf_size {k : Int} {l : List FieldD} (h : ∀ f ∈ l, f.name.size ≤ 1000000) : ∀ f ∈ fieldsOf k l, f.name.size ≤ 1000000 := by
  intro f hf
  unfold fieldsOf at hf
  split at hf
  · exact h f hf
  · split at hf
    · simp only [tonF, List.mem_cons, List.not_mem_nil, or_false] at hf
      rcases hf with rfl | rfl | rfl | rfl | rfl | rfl <;> decide
    · split at hf
      · simp only [ctuF, List.mem_cons, List.not_mem_nil, or_false] at hf
        rcases hf with rfl | rfl | rfl | rfl | rfl | rfl <;> decide
      · simp at hf
theorem fieldsOf_len {k : Int} {l : List FieldD} (h : l.length ≤ 1000000) : (fieldsOf k l).length ≤ 1000000 := by
  unfold fieldsOf
  split
  · exact h
  · split
    · decide
    · split <;> decide

set_option maxHeartbeats 2000000 in
theorem kind_any (k e n : Int) (A : Option Addr) (m c : Nat) (l : List FieldD) (i : Nat) (w : World) (hr : Row w w.heap.size 2 A m (fieldRow l)) (hm : m ≤ 1000000) (hml : m = l.length) (hc : m ≤ c) (hcm : c ≤ 9223372036854775807) (hi : i ≤ 1000000) :
    Calls Tryd.prog 18 #[.agg #[.int .i64 k, .int .i64 e, .int .i64 n, .slice A m c], .int .i64 i] w fun e' w' => e' = .returned (.int .i64 (kindOf k e l i)) ∧ Below w.heap.size w w' := by
  have F := Lib.hid (fun u (h : Row u u.heap.size 2 A m (fieldRow l)) => fieldsT_any k e n A m c l u h hm hml hc hcm)
  have HR := Lib.hid hr
  have hlen := fieldsOf_len (k := k) (hml ▸ hm)
  have HLEN := Lib.hid hlen
  clear hr hml hlen
  by_cases h7 : k = 7
  · subst h7
    rw [show kindOf 7 e l i = e by simp [kindOf]]
    go_enter Tryd.func18, Tryd.ntmps18
    go_wp2_with fail
    refine (F.out _ ((HR.out.alloc (Nat.le_refl _) _).more (by simp))).mono ?_
    rintro e' w1 ⟨⟨R, c', rfl, hcc, hcm', hrow⟩, hb⟩
    have k0 : w1.cell? ⟨w.heap.size, 0, none⟩ = some (.int .i64 7) := (dcell hb (by simp) 0).trans (by go_simp)
    have k1 : w1.cell? ⟨w.heap.size, 1, none⟩ = some (.int .i64 e) := (dcell hb (by simp) 1).trans (by go_simp)
    have HB := Lib.hid hb
    clear hb hrow hcc hcm'
    go_wp2
    go_ret
    exact ⟨rfl, ((Below.refl _ w).alloc (Nat.le_refl _) _).trans (HB.out.mono (by simp))⟩
  · have h7' : (k == 7) = false := by simpa using h7
    have HK : Hid (kindOf k e l i = match (fieldsOf k l)[i]? with | some f => f.kind | none => k) := Lib.hid (by simp [kindOf, h7])
    generalize kindOf k e l i = q at *
    generalize fieldsOf k l = fs at *
    by_cases hlt : i < fs.length
    · obtain ⟨f, hf⟩ : ∃ f, fs[i]? = some f := ⟨_, List.getElem?_eq_getElem hlt⟩
      have hq : q = f.kind := by rw [HK.out, hf]
      have HF := Lib.hid hf
      subst hq
      clear hf
      go_enter Tryd.func18, Tryd.ntmps18
      go_wp2_with fail
      refine (F.out _ ((HR.out.alloc (Nat.le_refl _) _).more (by simp))).mono ?_
      rintro e' w1 ⟨⟨R, c', rfl, hcc, hcm', hrow⟩, hb⟩
      have k0 : w1.cell? ⟨w.heap.size, 0, none⟩ = some (.int .i64 k) := (dcell hb (by simp) 0).trans (by go_simp)
      obtain ⟨b, off, rfl, _, hcell⟩ := hrow.2 (by omega)
      have hx : w1.cell? ⟨b, off + i * 2 + 1, none⟩ = some (.int .i64 f.kind) := by
        have h := hcell (i * 2 + 1) (.int .i64 f.kind) ((flat_get fieldCells 2 fieldCells_length fs i 1 f HF.out (by omega)).trans rfl)
        rw [← Nat.add_assoc] at h
        exact h
      have HB := Lib.hid hb
      clear hb hrow hcell
      go_wp2
      go_ret
      exact ⟨rfl, ((Below.refl _ w).alloc (Nat.le_refl _) _).trans (HB.out.mono (by simp))⟩
    · have hq : q = k := by rw [HK.out, List.getElem?_eq_none (by omega)]
      subst hq
      go_enter Tryd.func18, Tryd.ntmps18
      go_wp2_with fail
      refine (F.out _ ((HR.out.alloc (Nat.le_refl _) _).more (by simp))).mono ?_
      rintro e' w1 ⟨⟨R, c', rfl, hcc, hcm', hrow⟩, hb⟩
      have k0 : w1.cell? ⟨w.heap.size, 0, none⟩ = some (.int .i64 q) := (dcell hb (by simp) 0).trans (by go_simp)
      have HB := Lib.hid hb
      clear hb hrow
      go_wp2
      go_ret
      exact ⟨rfl, ((Below.refl _ w).alloc (Nat.le_refl _) _).trans (HB.out.mono (by simp))⟩

theorem sret {a b : ByteArray} (h : a = b) : Ending.returned (.string a) = .returned (.string b) := by rw [h]

set_option maxHeartbeats 2000000 in
theorem path_any (nm : ByteArray) (k e n : Int) (A : Option Addr) (m c : Nat) (l : List FieldD) (rt : Bool) (I : Option Addr) (ni ci : Nat) (i : Nat) (w : World) (hr : Row w w.heap.size 2 A m (fieldRow l)) (hm : m ≤ 1000000) (hml : m = l.length) (hc : m ≤ c) (hcm : c ≤ 9223372036854775807) (hi : i < 100)
    (hnm : nm.size ≤ 1000000) (hfn : ∀ f ∈ l, f.name.size ≤ 1000000) :
    Calls Tryd.prog 17 #[.agg #[.string nm, .int .i64 k, .int .i64 e, .int .i64 n, .slice A m c, .bool rt, .slice I ni ci], .int .i64 i] w fun e' w' => e' = .returned (.string (pathOf nm k l i)) ∧ Below w.heap.size w w' := by
  have F := Lib.hid (fun u (h : Row u u.heap.size 2 A m (fieldRow l)) => fieldsT_any k e n A m c l u h hm hml hc hcm)
  have HR := Lib.hid hr
  have hlen := fieldsOf_len (k := k) (hml ▸ hm)
  have HLEN := Lib.hid hlen
  have HSZ := Lib.hid (fieldsOf_size (k := k) hfn)
  have hnm' : (nm.size : Int) ≤ 1000000 := by omega
  clear hr hml hlen hfn
  by_cases h7 : k = 7
  · subst h7
    have HP : Hid (pathOf nm 7 l i = nm ++ { data := #[91] } ++ digits2 i ++ { data := #[93] }) := Lib.hid (by simp [pathOf])
    generalize pathOf nm 7 l i = q at *
    have IT := Lib.hid (fun u => itoa_small i hi u)
    have hd := digits2_size i
    generalize digits2 i = d at *
    have hd' : (d.size : Int) ≤ 2 := by omega
    go_enter Tryd.func17, Tryd.ntmps17
    go_wp2_with fail
    refine (F.out _ ((HR.out.alloc (Nat.le_refl _) _).more (by simp))).mono ?_
    rintro e' w1 ⟨⟨R, c', rfl, hcc, hcm', hrow⟩, hb⟩
    have k0 : w1.cell? ⟨w.heap.size, 0, none⟩ = some (.string nm) := (dcell hb (by simp) 0).trans (by go_simp)
    have k1 : w1.cell? ⟨w.heap.size, 1, none⟩ = some (.int .i64 7) := (dcell hb (by simp) 1).trans (by go_simp)
    have HB := Lib.hid hb
    clear hb hrow hcc hcm'
    go_wp2_with fail
    go_quiet ((go_at_call 26; exact Calls.quiet_of_same (IT.out _)))
    go_wp2
    go_ret
    exact ⟨sret HP.out.symm, (((Below.refl _ w).alloc (Nat.le_refl _) _).trans (HB.out.mono (by simp))).trans ⟨rfl, rfl, rfl, Nat.le_refl _, fun _ _ => rfl⟩⟩
  · have h7' : (k == 7) = false := by simpa using h7
    have HK : Hid (pathOf nm k l i = match (fieldsOf k l)[i]? with | some f => nm ++ { data := #[46] } ++ f.name | none => nm) := Lib.hid (by simp [pathOf, h7])
    generalize pathOf nm k l i = q at *
    generalize fieldsOf k l = fs at *
    by_cases hlt : i < fs.length
    · obtain ⟨f, hf⟩ : ∃ f, fs[i]? = some f := ⟨_, List.getElem?_eq_getElem hlt⟩
      have hq : q = nm ++ { data := #[46] } ++ f.name := by rw [HK.out, hf]
      have hfs : f.name.size ≤ 1000000 := HSZ.out f (List.mem_of_getElem? hf)
      have HF := Lib.hid hf
      have HQ := Lib.hid hq
      have hfs' : (f.name.size : Int) ≤ 1000000 := by omega
      clear hf hq
      go_enter Tryd.func17, Tryd.ntmps17
      go_wp2_with fail
      refine (F.out _ ((HR.out.alloc (Nat.le_refl _) _).more (by simp))).mono ?_
      rintro e' w1 ⟨⟨R, c', rfl, hcc, hcm', hrow⟩, hb⟩
      have k0 : w1.cell? ⟨w.heap.size, 0, none⟩ = some (.string nm) := (dcell hb (by simp) 0).trans (by go_simp)
      have k1 : w1.cell? ⟨w.heap.size, 1, none⟩ = some (.int .i64 k) := (dcell hb (by simp) 1).trans (by go_simp)
      obtain ⟨b, off, rfl, _, hcell⟩ := hrow.2 (by omega)
      have hx : w1.cell? ⟨b, off + i * 2, none⟩ = some (.string f.name) := hcell (i * 2) (.string f.name) ((flat_get fieldCells 2 fieldCells_length fs i 0 f HF.out (by omega)).trans rfl)
      have HB := Lib.hid hb
      clear hb hrow hcell
      go_wp2_with fail
      go_quiet (fail)
      go_wp2
      go_ret
      exact ⟨sret HQ.out.symm, (((Below.refl _ w).alloc (Nat.le_refl _) _).trans (HB.out.mono (by simp))).trans ⟨rfl, rfl, rfl, Nat.le_refl _, fun _ _ => rfl⟩⟩
    · have hq : q = nm := by rw [HK.out, List.getElem?_eq_none (by omega)]
      subst hq
      go_enter Tryd.func17, Tryd.ntmps17
      go_wp2_with fail
      refine (F.out _ ((HR.out.alloc (Nat.le_refl _) _).more (by simp))).mono ?_
      rintro e' w1 ⟨⟨R, c', rfl, hcc, hcm', hrow⟩, hb⟩
      have k0 : w1.cell? ⟨w.heap.size, 0, none⟩ = some (.string q) := (dcell hb (by simp) 0).trans (by go_simp)
      have k1 : w1.cell? ⟨w.heap.size, 1, none⟩ = some (.int .i64 k) := (dcell hb (by simp) 1).trans (by go_simp)
      have HB := Lib.hid hb
      clear hb hrow
      go_wp2
      go_ret
      exact ⟨rfl, ((Below.refl _ w).alloc (Nat.le_refl _) _).trans (HB.out.mono (by simp))⟩
end Go.Proofs.YtgeeicgdgncmpaaDoor
