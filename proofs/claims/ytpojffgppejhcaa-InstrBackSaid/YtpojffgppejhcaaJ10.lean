/- Chapter 10: All. -/
import Derived.Test.YtpojffgppejhcaaH10
import Derived.Test.YtpojffgppejhcaaI10
namespace Go.Proofs.Ytpojffgppejhcaa
open Go.RowKit
set_option linter.unusedVariables false
set_option linter.unusedSimpArgs false

/-- All's rounds: from a place on, with what was read before. -/
def runL (z : Nat → Int) (len : Nat) : Nat → Int → List (Int × Int × Int × Int × Int) → List (Int × Int × Int × Int × Int) × Int
  | 0, _, L => (L, 0)
  | f + 1, p, L => if p < len then (if (rd z len p).2 = 0 then runL z len f (rd z len p).1.2.1 (L ++ [(rd z len p).1]) else ([], (rd z len p).2)) else (L, 0)

/-- An instruction's cells, a row's cells. -/
def opCells (o : Int × Int × Int × Int × Int) : List Value := [.int .i64 o.1, .int .i64 o.2.1, .int .i64 o.2.2.1, .int .i64 o.2.2.2.1, .int .i64 o.2.2.2.2]
def rowCells (L : List (Int × Int × Int × Int × Int)) : List Value := L.flatMap opCells

theorem rowCells_add (L : List (Int × Int × Int × Int × Int)) (o : Int × Int × Int × Int × Int) : rowCells (L ++ [o]) = rowCells L ++ opCells o := by
  simp [rowCells, List.flatMap_append]
theorem rowCells_length (L : List (Int × Int × Int × Int × Int)) : (rowCells L).length = L.length * 5 := by
  induction L with
  | nil => rfl
  | cons o L ih => simp only [rowCells, List.flatMap_cons, List.length_append, List.length_cons] at *; rw [ih]; simp [opCells]; omega
theorem rowCells_one (L : List (Int × Int × Int × Int × Int)) : ∀ u ∈ rowCells L, u.oneCell' = true := by
  intro u hu
  simp only [rowCells, List.mem_flatMap] at hu
  obtain ⟨o, _, ho⟩ := hu
  simp [opCells] at ho
  rcases ho with rfl | rfl | rfl | rfl | rfl <;> rfl

theorem rd_ok {z : Nat → Int} {len k : Nat} (hk : k < len) (h : (rd z len k).2 = 0) : ∃ k' : Nat, (rd z len k).1.2.1 = k' ∧ k < k' ∧ k' ≤ len := by
  have ht : ((k : Int)).toNat = k := by omega
  have hn : ¬ ((k : Int) < 0 ∨ (len : Int) ≤ k) := by omega
  have hw := bearsN_ways (z k)
  by_cases h2 : 29 < z k
  · simp only [rd, ht, if_neg hn, if_pos h2] at h
    omega
  by_cases h3 : (len : Int) - (k + 1) < bearsN (z k)
  · simp only [rd, ht, if_neg hn, if_neg h2, if_pos h3] at h
    omega
  refine ⟨((k : Int) + 1 + bearsN (z k)).toNat, ?_, by omega, by omega⟩
  simp only [rd, ht, if_neg hn, if_neg h2, if_neg h3]
  omega

/-- What All's rounds hold. -/
def AllRel (z : Nat → Int) (len : Nat) (R : List (Int × Int × Int × Int × Int) × Int) (T : TypeId) (w : World) (out at_ : Value) (wr : World) : Prop :=
  ∃ (k f : Nat) (L : List (Int × Int × Int × Int × Int)), at_ = .int .i64 k ∧ L.length ≤ k ∧ k ≤ len ∧ len + 1 ≤ f + k ∧ runL z len f k L = R ∧ (L = [] → out = .slice none 0 0) ∧
    wr.ownsRow w.heap.size T 5 out L.length (rowCells L) ∧ Below w.heap.size w wr

/-- A row of instructions, as a slice that was made. -/
def RowAt (B : Option Addr) (lo : Nat) (L : List (Int × Int × Int × Int × Int)) (w' : World) : Prop :=
  0 < L.length → ∃ b, B = some ⟨b, 0, none⟩ ∧ lo ≤ b ∧ b < w'.heap.size ∧ ∀ j u, (rowCells L)[j]? = some u → w'.cell? ⟨b, j, none⟩ = some u

theorem owns_keep {wr u : World} {base : Nat} {e : TypeId} {size n : Nat} {v : Value} {xs : List Value} (h : wr.ownsRow base e size v n xs) (hb : Below wr.heap.size wr u) : u.ownsRow base e size v n xs := by
  refine h.kept (row := none) ⟨hb.os, hb.tape, hb.output, hb.size, fun k hk _ => hb.block k hk⟩ ?_
  cases h : v.ownBlock
  · exact .inl rfl
  · exact .inr (by simp)
theorem owns_ne {u : World} {base : Nat} {e : TypeId} {size n : Nat} {v : Value} {xs : List Value} (h : u.ownsRow base e size v n xs) : v.ownBlock ≠ some u.heap.size := fun h' => by have := (h.lt _ h').2; omega

set_option maxHeartbeats 8000000 in
theorem all_core (R : List (Int × Int × Int × Int × Int) × Int) (A : Option Addr) (len cap : Nat) (z : Nat → Int) (w : World) (c : Came w A len cap fun j => .int .u8 (z j)) (hl : len ≤ 10000) (hz : ∀ i, i < len → 0 ≤ z i ∧ z i < 256) (hR0 : runL z len (len + 1) 0 [] = R) :
    Calls Try.prog 13 #[.slice A len cap] w fun e w' => (∃ B n, e = .returned (.tuple #[.slice B R.1.length n, .int .i64 R.2]) ∧
      RowAt B w.heap.size R.1 w') ∧ Below w.heap.size w w' := by
  obtain ⟨i0, hi, hz0, hz1, hz2⟩ := info_parts opInfo
  have t27 := opRow
  have HC := Lib.hid c
  have HZ := Lib.hid hz
  have hl' : (len : Int) ≤ 10000 := by omega
  have HR0 := Lib.hid hR0
  clear c hz hR0
  go_enter Try.func13, Try.ntmps13
  go_wp2_with fail
  go_loopw [4, 5] (fun out i wr => AllRel z len R 25 w out i wr) (fun _ i _ => len - (intOf i).toNat)
  case atStart => exact ⟨0, len + 1, [], rfl, Nat.le_refl _, by omega, by omega, HR0.out, fun _ => rfl, World.ownsRow_nil _ _ _ _, Below.refl _ _⟩
  case round =>
    obtain ⟨k, f, L, rfl, hLk, hk, hf, hR, hnil, hown, hb⟩ := hrel
    by_cases hlt : k < len
    · obtain ⟨f', rfl⟩ : ∃ f', f = f' + 1 := ⟨f - 1, by omega⟩
      have hlt' : (k : Int) < len := by omega
      have hR' : (if (rd z len k).2 = 0 then runL z len f' (rd z len k).1.2.1 (L ++ [(rd z len k).1]) else ([], (rd z len k).2)) = R := by
        rw [← hR]; simp only [runL, if_pos hlt']
      have hok := rd_ok (z := z) hlt
      have CR := Lib.hid (read_any A len cap z k wr ⟨HC.out.le, HC.out.max, fun h => by
        obtain ⟨b, off, h1, h2, h3⟩ := HC.out.at_ h
        exact ⟨b, off, h1, by have := hb.size; omega, fun i hi => (hb.cell (p := ⟨b, off + i, none⟩) h2).trans (h3 i hi)⟩⟩ (by omega) HZ.out)
      have HB := Lib.hid hb
      have HO := Lib.hid hown
      have HR := Lib.hid hR'
      have HK := Lib.hid hok
      clear hb hown hR hnil hR' hok
      generalize hr : rd z len k = r at *
      obtain ⟨⟨a0, a1, a2, a3, a4⟩, er⟩ := r
      have HRD := Lib.hid hr
      clear hr
      simp only [rdV, opT] at CR
      go_wp2_with fail
      refine CR.out.mono ?_
      rintro e u ⟨rfl, hbu⟩
      have HU := Lib.hid (HB.out.trans (hbu.mono HB.out.size))
      have hsz : w.heap.size ≤ u.heap.size := HU.out.size
      have HOU := Lib.hid (owns_keep HO.out hbu)
      clear hbu CR
      by_cases he : er = 0
      · subst he
        obtain ⟨k', hk', hkk, hkl⟩ := HK.out rfl
        have hk'' : a1 = k' := hk'
        subst hk''
        clear hk' HK
        go_wp2_with (at_builtin; refine wpList_append_own _ rfl _ _ 33 rfl w.heap.size 25 i0 _ 5 40 t27 hi hz0 hz1 hz2 rfl (by decide) _ L.length (rowCells L) rfl ((HOU.out.alloc _).alloc _) ⟨u.heap.size + 1, 0, none⟩ 1 1 (opCells (a0, (k' : Int), a2, a3, a4)) rfl ?qc1 ?qc2 ?qc3 ?qc4 ?qc5 ?qc6 ?_)
        case qc1 => rfl
        case qc2 =>
          intro j u hj
          rw [Addr.add_lit]
          have hj' : j < 5 := by have := (List.getElem?_eq_some_iff.1 hj).1; simpa [opCells] using this
          rcases (show j = 0 ∨ j = 1 ∨ j = 2 ∨ j = 3 ∨ j = 4 by omega) with rfl | rfl | rfl | rfl | rfl <;> (simp [opCells] at hj; subst hj; go_simp)
        case qc3 => intro u hu; exact rowCells_one [(a0, (k' : Int), a2, a3, a4)] u (by simpa [rowCells] using hu)
        case qc4 => unfold maxLen; omega
        case qc5 => omega
        case qc6 => simp; omega
        intro v' w1 hown hgrow hnil
        have HO1 := Lib.hid hown
        have HB1 := Lib.hid (show Below w.heap.size w w1 from ((HU.out.alloc hsz _).alloc (by simp; omega) _).grown hgrow (by simp; omega) (fun k hk => (HOU.out.lt k hk).1))
        have HCO := Lib.hid (show ∀ i (u1 : Value), (opCells (a0, (k' : Int), a2, a3, a4))[i]? = some u1 → w1.cell? ⟨u.heap.size, i, none⟩ = some u1 by
          intro i u1 h1
          have hne := owns_ne HOU.out
          rw [World.cell?_of_block (w := (u.alloc _).alloc _) (hgrow.block u.heap.size (by simp; omega) (fun e => hne e.symm))]
          have hj' : i < 5 := by have := (List.getElem?_eq_some_iff.1 h1).1; simpa [opCells] using this
          rcases (show i = 0 ∨ i = 1 ∨ i = 2 ∨ i = 3 ∨ i = 4 by omega) with rfl | rfl | rfl | rfl | rfl <;> (simp [opCells] at h1; subst h1; go_simp))
        have hc1 : w1.cell? ⟨u.heap.size, 1, none⟩ = some (.int .i64 k') := HCO.out 1 _ rfl
        clear hown hgrow hnil
        go_wp2
        go_roundw
        case rel =>
          refine ⟨k', f', L ++ [(a0, (k' : Int), a2, a3, a4)], rfl, by simp; omega, hkl, by omega, ?_, fun h => by simp at h, ?_, HB1.out⟩
          · have := HR.out
            simpa using this
          · rw [rowCells_add, List.length_append]
            exact HO1.out
        case measure => simp [intOf]; omega
      · have he' : (er == 0) = false := by simpa using he
        obtain rfl : R = ([], er) := by rw [← HR.out]; exact if_neg he
        clear he HK
        go_wp2
        go_ret2
        exact ⟨⟨none, ⟨0, rfl⟩, fun h => by simp at h⟩, HU.out.alloc hsz _⟩
    · have hkl : k = len := by omega
      subst hkl
      obtain rfl : R = (L, 0) := by
        rw [← hR]
        cases f with
        | zero => rfl
        | succ f => simp only [runL, if_neg (show ¬ ((k : Int) < k) by omega)]
      have hown' := owns_cells hown
      obtain ⟨A1, c1, rfl, h1, h2, h3⟩ := hown'
      have hnn : L.length = 0 → A1 = none := by
        intro h
        have := hnil (List.length_eq_zero_iff.1 h)
        simp at this
        exact this.1
      have CC := Lib.hid (clone_any A1 L.length c1 (rowCells L) wr (rowCells_length L) (by omega) (rowCells_one L) (fun h => by
        obtain ⟨b, hA, _, hb2, hb3⟩ := h3 h
        exact ⟨b, 0, hA, hb2, fun j u hj => by rw [Nat.zero_add]; exact hb3 j u hj⟩) hnn)
      have HB := Lib.hid hb
      clear hb hown hR hnil h1 h2 h3 hnn HR0
      go_wp2_with fail
      refine CC.out.mono ?_
      rintro e u ⟨⟨B, c2, rfl, hB⟩, hbu⟩
      have HBU := Lib.hid (HB.out.trans (hbu.mono HB.out.size))
      have hsz := HB.out.size
      have HBB := Lib.hid hB
      clear hbu hB
      go_wp2
      go_ret2
      refine ⟨⟨B, ⟨c2, rfl⟩, fun h => ?_⟩, HBU.out⟩
      obtain ⟨b, h1, h2, h3, h4⟩ := HBB.out h
      exact ⟨b, h1, by omega, h3, h4⟩

theorem all_any (A : Option Addr) (len cap : Nat) (z : Nat → Int) (w : World) (c : Came w A len cap fun j => .int .u8 (z j)) (hl : len ≤ 10000) (hz : ∀ i, i < len → 0 ≤ z i ∧ z i < 256) :
    Calls Try.prog 13 #[.slice A len cap] w fun e w' => (∃ B n, e = .returned (.tuple #[.slice B (runL z len (len + 1) 0 []).1.length n, .int .i64 (runL z len (len + 1) 0 []).2]) ∧
      RowAt B w.heap.size (runL z len (len + 1) 0 []).1 w') ∧ Below w.heap.size w w' := all_core _ A len cap z w c hl hz rfl
end Go.Proofs.Ytpojffgppejhcaa
