/- A row of variables that came in as an argument, opened. -/
import Derived.Test.YtgeeicgdgncmpaaDoorC8
import Derived.Test.YtgeeicgdgncmpaaDoorFrame
import Derived.Deep.SlicePairs
import Derived.Lib.SmallJoins
namespace Go.Proofs.YtgeeicgdgncmpaaDoor
open Go.ChangeShapes Go.WideShapes Go.ChangeAt Go.RowKit
set_option linter.unusedVariables false
set_option linter.unusedSimpArgs false

/-- A variable as it comes: nothing is said but that its numbers are ints, its lengths lengths. -/
structure SymD.Raw (s : SymD) : Prop where
  name : s.name.size ≤ 9223372036854775807
  kind : I64 s.kind
  elem : I64 s.elem
  n : I64 s.n
  fields : ∀ f ∈ s.fields, f.name.size ≤ 9223372036854775807 ∧ I64 f.kind
  init : ∀ x ∈ s.init, I64 x

/-- A row of them. -/
structure SymsRaw (w : World) (B : Nat) (A : Option Addr) (n : Nat) (l : List SymD) : Prop where
  len : n = l.length
  at_ : 0 < n → ∃ b off, A = some ⟨b, off, none⟩ ∧ b < B ∧ ∀ (i : Nat) (s : SymD), l[i]? = some s → SymAt w B b (off + i * 7) s
  raw : ∀ s ∈ l, s.Raw

theorem SymsRaw.below {w w' : World} {B : Nat} {A : Option Addr} {n : Nat} {l : List SymD} (h : SymsRaw w B A n l) (hb : Below B w w') : SymsRaw w' B A n l :=
  ⟨h.len, fun hn => by
    obtain ⟨b, off, e, hlt, hs⟩ := h.at_ hn
    exact ⟨b, off, e, hlt, fun i s hi => (hs i s hi).below hb hlt⟩, h.raw⟩

instance : Inhabited SymD := ⟨⟨{ data := #[] }, 0, 0, 0, [], false, []⟩⟩
instance : Inhabited FieldD := ⟨⟨{ data := #[] }, 0⟩⟩

section
variable {H : Type} {enc : TypeId × Value → H} {P : Program} {W : World}

theorem spot_lt {x : Addr} {v : Value} (h : W.cell? x = some v) : x.spot = none ∧ x.block < W.heap.size := by
  refine ⟨World.cell?_spot h, ?_⟩
  rcases Nat.lt_or_ge x.block W.heap.size with h1 | h1
  · exact h1
  · exfalso
    unfold World.cell? at h
    simp [Array.getElem?_eq_none h1] at h

theorem open_fieldrow {t e : TypeId} {f0 f1 : Field} {fuel : Nat} {v : Value} {x : DataW H × List MemPlace} (ht : P.underlying t = some (.slice e)) (he : P.underlying e = some (.struct #[f0, f1]))
    (ce : P.cellsOf e = 2) (o0 : f0.offset = 0) (o1 : f1.offset = 1) (c0 : P.cellsOf f0.type = 1) (c1 : P.cellsOf f1.type = 1) (u0 : P.underlying f0.type = some .string) (u1 : P.underlying f1.type = some (.int .i64))
    (h : DataW.trod enc P W 0 (fun _ => true) true fuel t [v] = some x) :
    ∃ A c, ∃ l : List FieldD, v = .slice A l.length c ∧ l.length ≤ c ∧ c ≤ 9223372036854775807 ∧ Row W W.heap.size 2 A l.length (fieldRow l) ∧ ∀ f ∈ l, f.name.size ≤ 9223372036854775807 ∧ I64 f.kind := by
  rcases Deep.open_slice_pairs ht he ce o0 o1 c0 c1 h with ⟨hcs, _⟩ | ⟨a, len, cap, m, n, V0, V1, D0, D1, P0, P1, hcs, _, hl, hm, hmm, _, hx⟩
  · obtain rfl : v = .slice none 0 0 := by simpa using hcs
    exact ⟨none, 0, [], rfl, Nat.le_refl _, by omega, Row.nil, by simp⟩
  · obtain rfl : v = .slice (some a) len cap := by simpa using hcs
    have hmm' : m = cap := by simpa using hmm
    subst hmm'
    have each : ∀ i, i < len → ∃ f : FieldD, V0 i = .string f.name ∧ V1 i = .int .i64 f.kind ∧ f.name.size ≤ 9223372036854775807 ∧ I64 f.kind := by
      intro i hi
      obtain ⟨_, _, h2, h3⟩ := hx i (by omega)
      obtain ⟨s, e1, _, e2⟩ := DataW.trod_string u0 h2
      obtain ⟨z, e3, _, e4⟩ := DataW.trod_int u1 h3
      exact ⟨⟨s, z⟩, by simpa using e1, by simpa using e3, e2, I64.of e4⟩
    obtain ⟨F, hF⟩ := Deep.choose_lt each
    refine ⟨some a, m, (List.range len).map F, by simp, by simpa using hl, hm, ⟨by rw [fieldRow, flat_length fieldCells 2 fieldCells_length], ?_⟩, ?_⟩
    · intro h0
      have hl0 : 0 < len := by simpa using h0
      obtain ⟨b, off, spot⟩ := a
      obtain ⟨q0, _⟩ := hx 0 (by omega)
      have hs := spot_lt q0
      obtain rfl : spot = none := by simpa [Addr.add] using hs.1
      have hb : b < W.heap.size := by simpa [Addr.add] using hs.2
      refine ⟨b, off, rfl, hb, fun j u hj => ?_⟩
      have hj2 : j < len * 2 := by
        have := (List.getElem?_eq_some_iff.1 hj).1
        rw [fieldRow, flat_length fieldCells 2 fieldCells_length] at this
        simpa using this
      have hi : j / 2 < len := by omega
      have hg : ((List.range len).map F)[j / 2]? = some (F (j / 2)) := by simp [hi]
      have hfl := flat_get fieldCells 2 fieldCells_length _ (j / 2) (j % 2) _ hg (by omega)
      rw [show j / 2 * 2 + j % 2 = j by omega] at hfl
      have hj' : (fieldCells (F (j / 2)))[j % 2]? = some u := hfl.symm.trans hj
      obtain ⟨q1, q2, _, _⟩ := hx (j / 2) (by omega)
      obtain ⟨e1, e2, _, _⟩ := hF (j / 2) hi
      rw [add_plain] at q1 q2
      rcases (show j % 2 = 0 ∨ j % 2 = 1 by omega) with hr | hr
      · rw [hr] at hj'
        obtain rfl : Value.string (F (j / 2)).name = u := by simpa [fieldCells] using hj'
        rw [← e1, ← q1]
        congr 2
        omega
      · rw [hr] at hj'
        obtain rfl : Value.int .i64 (F (j / 2)).kind = u := by simpa [fieldCells] using hj'
        rw [← e2, ← q2]
        congr 2
        omega
    · intro f hf
      obtain ⟨i, hi, rfl⟩ := List.mem_map.1 hf
      have hi' : i < len := by simpa using hi
      exact (hF i hi').2.2

theorem open_introw {t e : TypeId} {fuel : Nat} {v : Value} {x : DataW H × List MemPlace} (ht : P.underlying t = some (.slice e)) (he : P.underlying e = some (.int .i64)) (hc : P.cellsOf e = 1)
    (h : DataW.trod enc P W 0 (fun _ => true) true fuel t [v] = some x) :
    ∃ A c, ∃ l : List Int, v = .slice A l.length c ∧ l.length ≤ c ∧ c ≤ 9223372036854775807 ∧ Row W W.heap.size 1 A l.length (l.map (Value.int .i64)) ∧ ∀ z ∈ l, I64 z := by
  rcases open_ints ht he hc h with ⟨hcs, _⟩ | ⟨a, len, cap, zs, hcs, _, hl, hm, hz, _, hcell, hwz⟩
  · obtain rfl : v = .slice none 0 0 := by simpa using hcs
    exact ⟨none, 0, [], rfl, Nat.le_refl _, by omega, Row.nil, by simp⟩
  · obtain rfl : v = .slice (some a) len cap := by simpa using hcs
    have hz' : zs.length = cap := by simpa using hz
    have hlen : (zs.take len).length = len := by rw [List.length_take]; omega
    refine ⟨some a, cap, zs.take len, by rw [hlen], by rw [hlen]; exact hl, hm, ⟨by simp, ?_⟩, fun z hzm => I64.of (hwz z (List.mem_of_mem_take hzm))⟩
    intro h0
    rw [hlen] at h0
    obtain ⟨b, off, spot⟩ := a
    have hs := spot_lt (hcell 0 (by omega))
    obtain rfl : spot = none := by simpa [Addr.add] using hs.1
    have hb : b < W.heap.size := by simpa [Addr.add] using hs.2
    refine ⟨b, off, rfl, hb, fun j u hj => ?_⟩
    have hj2 : j < len := by
      have := (List.getElem?_eq_some_iff.1 hj).1
      rw [List.length_map, hlen] at this
      exact this
    have hc' := hcell j (by omega)
    rw [add_plain] at hc'
    rw [hc', ← hj]
    simp [List.getElem?_take, hj2, List.getD_eq_getElem?_getD, List.getElem?_eq_getElem (show j < zs.length by omega)]

theorem open_symrow {t ts : TypeId} {s0 s1 s2 s3 t0 t1 t2 t3 g0 g1 : Field} {ft it : TypeId} {r : Reach} {b0 : Nat} {v : Value} {d : DataW H} {p : List MemPlace}
    (ht : P.underlying t = some (.slice ts)) (hs : P.underlying ts = some (.struct #[s0, s1, s2, s3])) (cs7 : P.cellsOf ts = 7)
    (so0 : s0.offset = 0) (so1 : s1.offset = 1) (so2 : s2.offset = 5) (so3 : s3.offset = 6) (sc0 : P.cellsOf s0.type = 1) (sc1 : P.cellsOf s1.type = 4) (sc2 : P.cellsOf s2.type = 1) (sc3 : P.cellsOf s3.type = 1)
    (su0 : P.underlying s0.type = some .string) (su1 : P.underlying s1.type = some (.struct #[t0, t1, t2, t3])) (su2 : P.underlying s2.type = some .bool) (su3 : P.underlying s3.type = some (.slice it)) (hit : P.underlying it = some (.int .i64)) (cit : P.cellsOf it = 1)
    (to0 : t0.offset = 0) (to1 : t1.offset = 1) (to2 : t2.offset = 2) (to3 : t3.offset = 3) (tc0 : P.cellsOf t0.type = 1) (tc1 : P.cellsOf t1.type = 1) (tc2 : P.cellsOf t2.type = 1) (tc3 : P.cellsOf t3.type = 1)
    (tu0 : P.underlying t0.type = some (.int .i64)) (tu1 : P.underlying t1.type = some (.int .i64)) (tu2 : P.underlying t2.type = some (.int .i64)) (tu3 : P.underlying t3.type = some (.slice ft))
    (hft : P.underlying ft = some (.struct #[g0, g1])) (gce : P.cellsOf ft = 2) (go0 : g0.offset = 0) (go1 : g1.offset = 1) (gc0 : P.cellsOf g0.type = 1) (gc1 : P.cellsOf g1.type = 1) (gu0 : P.underlying g0.type = some .string) (gu1 : P.underlying g1.type = some (.int .i64))
    (hv : Value.okWide P W r b0 t v) (h : DataW.Trod enc P W 0 (fun _ => true) true t v d p) :
    ∃ A len cap, ∃ l : List SymD, v = .slice A len cap ∧ SymsRaw W W.heap.size A len l ∧ len ≤ cap ∧ cap ≤ 9223372036854775807 := by
  obtain ⟨A, len, cap, rfl⟩ := okWide_slice ht hv
  obtain ⟨fuel, hf⟩ := h
  rcases Deep.open_slice ht hf with ⟨hcs, _⟩ | ⟨a, len', cap', m, n, D, Pl, hcs, _, hl, hm, hmm, _, hx⟩
  · simp [Value.cells] at hcs
    obtain ⟨rfl, rfl, rfl⟩ := hcs
    exact ⟨none, 0, 0, [], rfl, ⟨rfl, fun h => absurd h (by omega), by simp⟩, Nat.le_refl _, by omega⟩
  · simp [Value.cells] at hcs
    obtain ⟨rfl, rfl, rfl⟩ := hcs
    have hmm' : m = cap := by simpa using hmm
    subst hmm'
    have each : ∀ i, i < len → ∃ s : SymD, s.Raw ∧ ∃ Fa Fc Ia Ic, W.cell? (a.add (i * 7)) = some (.string s.name) ∧ W.cell? (a.add (i * 7 + 1)) = some (.int .i64 s.kind) ∧ W.cell? (a.add (i * 7 + 2)) = some (.int .i64 s.elem) ∧ W.cell? (a.add (i * 7 + 3)) = some (.int .i64 s.n) ∧
        W.cell? (a.add (i * 7 + 4)) = some (.slice Fa s.fields.length Fc) ∧ W.cell? (a.add (i * 7 + 5)) = some (.bool s.retain) ∧ W.cell? (a.add (i * 7 + 6)) = some (.slice Ia s.init.length Ic) ∧
        Row W W.heap.size 2 Fa s.fields.length (fieldRow s.fields) ∧ s.fields.length ≤ Fc ∧ Fc ≤ 9223372036854775807 ∧ Row W W.heap.size 1 Ia s.init.length (s.init.map (Value.int .i64)) ∧ s.init.length ≤ Ic ∧ Ic ≤ 9223372036854775807 := by
      intro i hi
      obtain ⟨cs', h1, h2⟩ := hx i (by omega)
      rw [cs7] at h1
      obtain ⟨_, hlen, hcell⟩ := World.cells?_some h1
      obtain ⟨y0, y1, y2, y3, k, _, _, r0, r1, r2, r3⟩ := Joins.trod_struct4 hs h2
      match cs', hlen with
      | [v0, v1, v2, v3, v4, v5, v6], _ =>
        simp only [so0, so1, so2, so3, sc0, sc1, sc2, sc3] at r0 r1 r2 r3
        obtain ⟨z0, z1, z2, z3, k', _, _, w0, w1, w2, w3⟩ := Joins.trod_struct4 su1 r1
        simp only [to0, to1, to2, to3, tc0, tc1, tc2, tc3] at w0 w1 w2 w3
        obtain ⟨nm, e0, _, e0'⟩ := DataW.trod_string su0 r0
        obtain ⟨kd, e1, _, e1'⟩ := DataW.trod_int tu0 w0
        obtain ⟨el, e2, _, e2'⟩ := DataW.trod_int tu1 w1
        obtain ⟨nn, e3, _, e3'⟩ := DataW.trod_int tu2 w2
        obtain ⟨rt, e5, _⟩ := DataW.trod_bool su2 r2
        obtain ⟨Fa, Fc, fl, e4, f1, f2, f3, f4⟩ := open_fieldrow (v := v4) tu3 hft gce go0 go1 gc0 gc1 gu0 gu1 w3
        obtain ⟨Ia, Ic, il, e6, i1, i2, i3, i4⟩ := open_introw (v := v6) su3 hit cit r3
        have hc := fun j (hj : j < 7) => by
          have := hcell j hj
          rw [Deep.add_add] at this
          exact this
        obtain rfl : v0 = .string nm := by simpa using e0
        obtain rfl : v1 = .int .i64 kd := by simpa using e1
        obtain rfl : v2 = .int .i64 el := by simpa using e2
        obtain rfl : v3 = .int .i64 nn := by simpa using e3
        obtain rfl : v5 = .bool rt := by simpa using e5
        subst e4 e6
        exact ⟨⟨nm, kd, el, nn, fl, rt, il⟩, ⟨e0', I64.of e1', I64.of e2', I64.of e3', f4, i4⟩, Fa, Fc, Ia, Ic, hc 0 (by omega), hc 1 (by omega), hc 2 (by omega), hc 3 (by omega), hc 4 (by omega), hc 5 (by omega), hc 6 (by omega), f3, f1, f2, i3, i1, i2⟩
    obtain ⟨S, hS⟩ := Deep.choose_lt each
    refine ⟨some a, len, m, (List.range len).map S, rfl, ⟨by simp, ?_, ?_⟩, hl, hm⟩
    · intro h0
      obtain ⟨b, off, spot⟩ := a
      obtain ⟨_, Fa, Fc, Ia, Ic, q0, _⟩ := hS 0 h0
      have hsp := spot_lt q0
      obtain rfl : spot = none := by simpa [Addr.add] using hsp.1
      have hb : b < W.heap.size := by simpa [Addr.add] using hsp.2
      refine ⟨b, off, rfl, hb, fun i s hi => ?_⟩
      have hil : i < len := by have := (List.getElem?_eq_some_iff.1 hi).1; simpa using this
      obtain rfl : S i = s := by simpa [hil] using hi
      obtain ⟨_, Fa, Fc, Ia, Ic, q0, q1, q2, q3, q4, q5, q6, f⟩ := hS i hil
      rw [add_plain] at q0 q1 q2 q3 q4 q5 q6
      rw [← Nat.add_assoc] at q1 q2 q3 q4 q5 q6
      exact ⟨Fa, Fc, Ia, Ic, q0, q1, q2, q3, q4, q5, q6, f⟩
    · intro s hs
      obtain ⟨i, hi, rfl⟩ := List.mem_map.1 hs
      exact (hS i (by simpa using hi)).1
end

/-- A row of variables as an argument. -/
theorem open_syms {H : Type} {enc : TypeId × Value → H} {W : World} {r : Reach} {b0 : Nat} {v : Value} {d : DataW H} {p : List MemPlace} (hv : Value.okWide Tryd.prog W r b0 22 v) (h : DataW.Trod enc Tryd.prog W 0 (fun _ => true) true 22 v d p) :
    ∃ A len cap, ∃ l : List SymD, v = .slice A len cap ∧ SymsRaw W W.heap.size A len l ∧ len ≤ cap ∧ cap ≤ 9223372036854775807 :=
  open_symrow Tryd.underlying22 Tryd.underlying34 (by kernel_rfl) rfl rfl rfl rfl (by kernel_rfl) (by kernel_rfl) (by kernel_rfl) (by kernel_rfl)
    Tryd.underlying9 Tryd.underlying31 Tryd.underlying4 Tryd.underlying32 Tryd.underlying3 (by kernel_rfl)
    rfl rfl rfl rfl (by kernel_rfl) (by kernel_rfl) (by kernel_rfl) (by kernel_rfl) Tryd.underlying3 Tryd.underlying3 Tryd.underlying3 Tryd.underlying29
    Tryd.underlying39 (by kernel_rfl) rfl rfl (by kernel_rfl) (by kernel_rfl) Tryd.underlying9 Tryd.underlying3 hv h
end Go.Proofs.YtgeeicgdgncmpaaDoor
