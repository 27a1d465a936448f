/- How arguments that came in are opened: integers, arrays of integers, slices of integers and of bools. No program's own text in it but the alias. -/
import Derived.Test.YtngobbbinacomaaDoorRows
import Derived.WalkKit
import Derived.ProofKit
import Derived.OpenShut
import Derived.ShutString
import Derived.ChangeOld
import Derived.Below
import Derived.Deep.Slices
namespace Go.Proofs.YtngobbbinacomaaDoor
open Go.ChangeShapes Go.WideShapes Go.ChangeAt Go.RowKit
set_option linter.unusedVariables false
theorem own : ownKnob Tryd.prog.godebug = none := by kernel_rfl
theorem laidOut : laidOutB Tryd.prog = true := by kernel_rfl
/-- An int. -/
def I64 (n : Int) : Prop := -9223372036854775808 ≤ n ∧ n ≤ 9223372036854775807
theorem I64.of {n : Int} (h : (Lit.int .i64 n).wf = true) : I64 n := bounds_i64 h
/-- A slice of one-cell elements that came in: where an element is, its cell. -/
structure Came (w : World) (A : Option Addr) (len cap : Nat) (V : Nat → Value) : Prop where
  le : len ≤ cap
  max : cap ≤ 9223372036854775807
  at_ : 0 < len → ∃ b off, A = some ⟨b, off, none⟩ ∧ b < w.heap.size ∧ ∀ i, i < len → w.cell? ⟨b, off + i, none⟩ = some (V i)
section
variable {H : Type} {enc : TypeId × Value → H} {P : Program} {W : World}
theorem came_of {len cap : Nat} {x : Addr} {V : Nat → Value} (hl : len ≤ cap) (hm : cap ≤ maxLen) (hc : ∀ i, i < len → W.cell? (x.add i) = some (V i)) : Came W (some x) len cap V := by
  refine ⟨hl, hm, fun h0 => ?_⟩
  obtain ⟨b, off, spot⟩ := x
  have h := hc 0 h0
  have hspot : spot = none := by simpa [Addr.add] using World.cell?_spot h
  subst hspot
  have hb : b < W.heap.size := by
    have h' : W.cell? ⟨b, off, none⟩ = some (V 0) := by simpa [Addr.add] using h
    rcases Nat.lt_or_ge b W.heap.size with h1 | h1
    · exact h1
    · exfalso
      unfold World.cell? at h'
      simp [Array.getElem?_eq_none h1] at h'
  refine ⟨b, off, rfl, hb, fun i hi => ?_⟩
  have := hc i hi
  by_cases h0 : i = 0
  · subst h0; simpa [Addr.add] using this
  · simpa [Addr.add, h0] using this
theorem open_ints1 {t e : TypeId} {k : IntKind} {r : Reach} {b0 : Nat} {v : Value} {d : DataW H} {p : List MemPlace} (ht : P.underlying t = some (.slice e)) (he : P.underlying e = some (.int k)) (hc : P.cellsOf e = 1)
    (hv : Value.okWide P W r b0 t v) (h : DataW.Trod enc P W 0 (fun _ => true) true t v d p) :
    ∃ A len cap, ∃ z : Nat → Int, v = .slice A len cap ∧ Came W A len cap (fun i => .int k (z i)) ∧ ∀ i, i < len → (Lit.int k (z i)).wf = true := by
  obtain ⟨A, len, cap, rfl⟩ := okWide_slice ht hv
  obtain ⟨fuel, hf⟩ := h
  rcases open_ints ht he hc hf with ⟨hcs, _⟩ | ⟨x, l, c, zs, hcs, _, hl, hm, hz, _, hcell, hwz⟩
  · simp [Value.cells] at hcs
    obtain ⟨rfl, rfl, rfl⟩ := hcs
    exact ⟨_, _, _, fun _ => 0, rfl, ⟨Nat.le_refl _, by omega, fun h => absurd h (by omega)⟩, fun i hi => absurd hi (by omega)⟩
  · simp [Value.cells] at hcs
    obtain ⟨rfl, rfl, rfl⟩ := hcs
    have hz' : zs.length = cap := by simpa using hz
    refine ⟨_, _, _, fun i => zs.getD i 0, rfl, came_of hl hm fun i hi => hcell i (by omega), fun i hi => hwz _ ?_⟩
    have hi' : i < zs.length := by omega
    simp [List.getD_eq_getElem?_getD, List.getElem?_eq_getElem hi']
theorem open_arr_any {n : Nat} {t e : TypeId} {k : IntKind} {r : Reach} {b0 : Nat} {v : Value} {d : DataW H} {p : List MemPlace} (ht : P.underlying t = some (.array n e)) (he : P.underlying e = some (.int k)) (hc : P.cellsOf e = 1)
    (hC : P.cellsOf t = n) (hv : Value.okWide P W r b0 t v) (h : DataW.Trod enc P W 0 (fun _ => true) true t v d p) :
    ∃ zs : List Int, v = .agg ((zs.map (Value.int k)).toArray) ∧ zs.length = n ∧ ∀ z ∈ zs, (Lit.int k z).wf = true := by
  have hv' : ∃ cs, v = .agg cs ∧ cs.size = n := by
    simp only [Value.okWide, ht] at hv
    obtain ⟨cs, h1, h2, _⟩ := hv
    exact ⟨cs, h1, by rw [h2, hC]⟩
  obtain ⟨cs, rfl, hn⟩ := hv'
  obtain ⟨l⟩ := cs
  obtain ⟨fuel, hf⟩ := h
  obtain ⟨xs, m, _, _, _, hxl, hel⟩ := DataW.trod_array ht hf
  have each : ∀ i (hi : i < l.length), ∃ z, l[i] = .int k z ∧ (Lit.int k z).wf = true := by
    intro i hi
    have hi' : i < n := by have : l.length = n := by simpa using hn
                           omega
    have h1 := hel i hi'
    rw [hc] at h1
    have hx : xs[i]? = some (xs[i]'(by omega)) := List.getElem?_eq_getElem (by omega)
    rw [hx] at h1
    have e1 : ((Value.agg ⟨l⟩).cells.toList.drop (i * 1)).take 1 = [l[i]] := by
      simp only [Value.cells, Nat.mul_one]
      rw [List.drop_eq_getElem_cons hi]
      rfl
    have h2 := h1
    rw [e1] at h2
    obtain ⟨z, hz, _, hw⟩ := DataW.trod_int he h2
    exact ⟨z, by simpa using hz, hw⟩
  refine ⟨l.map fun v => match v with | .int _ z => z | _ => 0, ?_, by simpa using hn, ?_⟩
  · congr 1
    apply Array.ext
    · simp
    · intro i h1 h2
      obtain ⟨z, hz, _⟩ := each i (by simpa using h1)
      simp [hz]
  · intro z hz
    obtain ⟨v, hv, rfl⟩ := List.mem_map.1 hz
    obtain ⟨i, hi, rfl⟩ := List.getElem_of_mem hv
    obtain ⟨z, hz, hw⟩ := each i hi
    rw [hz]
    exact hw
theorem open_arr4 {t e : TypeId} {k : IntKind} {r : Reach} {b0 : Nat} {v : Value} {d : DataW H} {p : List MemPlace} (ht : P.underlying t = some (.array 4 e)) (he : P.underlying e = some (.int k)) (hc : P.cellsOf e = 1)
    (hC : P.cellsOf t = 4) (hv : Value.okWide P W r b0 t v) (h : DataW.Trod enc P W 0 (fun _ => true) true t v d p) :
    ∃ a0 a1 a2 a3, v = .agg #[.int k a0, .int k a1, .int k a2, .int k a3] ∧ (Lit.int k a0).wf = true ∧ (Lit.int k a1).wf = true ∧ (Lit.int k a2).wf = true ∧ (Lit.int k a3).wf = true := by
  obtain ⟨zs, rfl, hl, hw⟩ := open_arr_any ht he hc hC hv h
  match zs, hl, hw with
  | [a0, a1, a2, a3], _, hw => exact ⟨a0, a1, a2, a3, rfl, hw _ (by simp), hw _ (by simp), hw _ (by simp), hw _ (by simp)⟩
end
end Go.Proofs.YtngobbbinacomaaDoor
