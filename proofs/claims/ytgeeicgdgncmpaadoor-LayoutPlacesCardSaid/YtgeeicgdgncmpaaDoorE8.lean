/- Find; within; the chapter's example. -/
import Derived.Test.YtgeeicgdgncmpaaDoorD8
import Derived.Test.YtgeeicgdgncmpaaDoorFrame
import Derived.BigGuardPart
import Derived.Laws.MakeOwn
namespace Go.Proofs.YtgeeicgdgncmpaaDoor
open Go.RowKit
set_option linter.unusedVariables false
set_option linter.unusedSimpArgs false

/-- The first one with a path, counted from i on. -/
def findL : List (List UInt8) → List UInt8 → Nat → Int × Bool
  | [], _, _ => (0, false)
  | c :: l, p, i => if c = p then ((i : Int), true) else findL l p (i + 1)
def pathsOf (l : List CellD) : List (List UInt8) := l.map fun c => c.path.data.toList

theorem same_bytes (a b : ByteArray) : (a.toList == b.toList) = decide (a.data.toList = b.data.toList) := by
  rw [ByteArray.toList_eq, ByteArray.toList_eq, Bool.eq_iff_iff]; simp

set_option maxHeartbeats 4000000 in
theorem find_any (A : Option Addr) (n c : Nat) (l : List CellD) (p : ByteArray) (w : World) (hr : Row w w.heap.size 6 A n (cellRow l)) (hn : n = l.length) (hn6 : n ≤ 1000000) :
    Calls Tryd.prog 11 #[.slice A n c, .string p] w fun e w' => e = .returned (.tuple #[.int .i64 (findL (pathsOf l) p.data.toList 0).1, .bool (findL (pathsOf l) p.data.toList 0).2]) ∧ Below w.heap.size w w' := by
  subst hn
  have HR := Lib.hid hr
  clear hr
  have HN := Lib.hid hn6
  have hn7 : (l.length : Int) ≤ 1000000 := by omega
  obtain ⟨R, hR⟩ : ∃ R, findL (pathsOf l) p.data.toList 0 = R := ⟨_, rfl⟩
  rw [hR]
  have HRR := Lib.hid hR
  clear hR
  go_enter Tryd.func11, Tryd.ntmps11
  go_wp2_with fail
  go_loopw [10] (fun i wr => ∃ k : Nat, i = .int .i64 k ∧ k ≤ l.length ∧ findL ((pathsOf l).drop k) p.data.toList k = R ∧ Below w.heap.size w wr) (fun i _ => l.length - (intOf i).toNat)
  case atStart => exact ⟨0, rfl, Nat.zero_le _, by simpa using HRR.out, Below.refl _ _⟩
  case round =>
    obtain ⟨k, rfl, hk, hf, hb⟩ := hrel
    by_cases hlt : k < l.length
    · have hlt' : (k : Int) < l.length := by omega
      obtain ⟨x, hx⟩ : ∃ x, l[k]? = some x := ⟨_, List.getElem?_eq_getElem hlt⟩
      obtain ⟨b, off, rfl, hbl, hcell⟩ := HR.out.2 (by omega)
      have hc : ∀ j u, (cellCells x)[j]? = some u → wr.cell? ⟨b, off + k * 6 + j, none⟩ = some u := fun j u hj => by
        have hj6 : j < 6 := by have := (List.getElem?_eq_some_iff.1 hj).1; simpa [cellCells] using this
        have h := hcell (k * 6 + j) u ((flat_get cellCells 6 cellCells_length l k j x hx hj6).trans hj)
        rw [← Nat.add_assoc] at h
        exact (dcell hb hbl _).trans h
      have c0 := hc 0 _ rfl
      have c1 := hc 1 _ rfl
      have c2 := hc 2 _ rfl
      have c3 := hc 3 _ rfl
      have c4 := hc 4 _ rfl
      have c5 := hc 5 _ rfl
      simp only [Nat.add_zero] at c0
      have hbw : b < wr.heap.size := by have := hb.size; omega
      have HB := Lib.hid hb
      have hzb := hb.size
      have hd : (pathsOf l).drop k = x.path.data.toList :: (pathsOf l).drop (k + 1) := by
        rw [pathsOf, ← List.map_drop, ← List.map_drop, List.drop_eq_getElem_cons hlt]
        have : l[k] = x := by rw [List.getElem?_eq_getElem hlt] at hx; exact Option.some.inj hx
        rw [this]; rfl
      rw [hd] at hf
      by_cases hs : x.path.data.toList = p.data.toList
      · have hs' : (x.path.toList == p.toList) = true := by rw [same_bytes]; simpa using hs
        have HF := Lib.hid (show R = ((k : Int), true) by rw [← hf]; simp [findL, hs])
        clear hf hd hs hcell hc hx hb HR
        go_wp2
        go_ret2
        exact ⟨by rw [HF.out]; rfl, HB.out.alloc hzb _⟩
      · have hs' : (x.path.toList == p.toList) = false := by rw [same_bytes]; simpa using hs
        have HF := Lib.hid (show findL ((pathsOf l).drop (k + 1)) p.data.toList (k + 1) = R by rw [← hf]; simp [findL, hs])
        clear hf hd hs hcell hc hx hb
        go_wp2
        go_roundw
        case rel => exact ⟨k + 1, rfl, by omega, HF.out, HB.out.alloc hzb _⟩
        case measure => simp [intOf]; omega
    · have hkl : k = l.length := by omega
      subst hkl
      have HF := Lib.hid (show R = (0, false) by rw [← hf, List.drop_eq_nil_of_le (by simp [pathsOf])]; rfl)
      have HB := Lib.hid hb
      clear hf hb
      go_wp2
      go_ret2
      exact ⟨by rw [HF.out]; rfl, HB.out⟩

/-- within(a, n) is a modulo n, from 0 on. -/
theorem within8_any (a n : Int) (hn : 0 < n) (hn' : n ≤ 4611686018427387904) (w : World) :
    Calls Tryd.prog 10 #[.int .i64 a, .int .i64 n] w fun e w' => e = .returned (.int .i64 (a % n)) ∧ w = w' := by
  have h1 := Int.emod_nonneg a (show n ≠ 0 by omega)
  have h2 := Int.emod_lt_of_pos a hn
  have h3 : a.tmod n = if 0 ≤ a ∨ a % n = 0 then a % n else a % n - n := by
    rw [Int.tmod_eq_emod]
    by_cases h : 0 ≤ a ∨ n ∣ a
    · rw [if_pos h, if_pos]
      · omega
      · rcases h with h | h
        · exact .inl h
        · exact .inr (Int.emod_eq_zero_of_dvd h)
    · rw [if_neg h, if_neg]
      · rw [Int.natAbs_of_nonneg (by omega)]
      · intro hh
        rcases hh with hh | hh
        · exact h (.inl hh)
        · exact h (.inr (Int.dvd_of_emod_eq_zero hh))
  have h4 : ¬ n = 0 := by omega
  by_cases hneg : a.tmod n < 0
  · have H : Hid (a.tmod n + n = a % n) := Lib.hid (by split at h3 <;> omega)
    have hb : -n < a.tmod n := by split at h3 <;> omega
    clear h3 h1 h2
    go_enter Tryd.func10, Tryd.ntmps10
    go_wp2
    go_ret
    exact ⟨qret H.out, rfl⟩
  · have H : Hid (a.tmod n = a % n) := Lib.hid (by split at h3 <;> omega)
    clear h3 h1 h2
    go_enter Tryd.func10, Tryd.ntmps10
    go_wp2
    go_ret
    exact ⟨qret H.out, rfl⟩

def zeros (n : Nat) : Array Value := Array.replicate n (.int .i64 0)
theorem zeros_get (n j : Nat) (h : j < n) : (zeros n)[j]? = some (.int .i64 0) := by simp [zeros, h]
theorem intInfo8 : (Tryd.prog.info? 3).map (fun i => (i.zero, i.size, i.bytes)) = some (some (.int .i64 0), 1, 8) := by kernel_rfl
theorem intTy8 : Tryd.prog.underlying 32 = some (.slice 3) := by kernel_rfl
theorem make_ints (n : Nat) (hn : n ≤ 1000000) (w : World) :
    (Instr.makeSlice 32 (.int .i64 n) (.int .i64 n)).run Tryd.prog w = .ok (.slice (some ⟨w.heap.size, 0, none⟩) n n) (w.alloc (.cells (zeros n) 3)) := by
  obtain ⟨i0, hi, hz0, hz1, hz2⟩ := info_parts intInfo8
  have h := run_make (P := Tryd.prog) w 32 3 i0 _ intTy8 hi hz0 .i64 .i64 n n (by omega) (by omega) (by rw [hz2]; omega) (by omega)
  rw [h, hz1]
  congr 3
  unfold madeCells zeros
  apply Array.ext
  · simp
  · intro j h1 h2
    simp [Value.cells, Nat.mod_one]

def symT : SymD := ⟨{ data := #[116] }, 9, 0, 0, [], false, [0, 0, 0, 0, 0, 0]⟩
theorem symT_ok : symT.Ok := ⟨by decide, by decide, fun f hf => by simp [symT] at hf, by decide⟩

set_option maxHeartbeats 4000000 in
theorem known8_any (w : World) : Calls Tryd.prog 5 #[] w fun e w' => e = .returned (.bool true) ∧ Below w.heap.size w w' := by
  have hmk : ∀ w, (Instr.makeSlice 32 (.int .i64 6) (.int .i64 6)).run Tryd.prog w = .ok (.slice (some ⟨w.heap.size, 0, none⟩) 6 6) (w.alloc (.cells (zeros 6) 3)) := make_ints 6 (by omega)
  go_enter Tryd.func5, Tryd.ntmps5
  go_wp2_with fail
  refine (cells_any _ 1 1 [symT] _ ⟨rfl, fun _ => ⟨_, 0, rfl, ?_, ?_⟩, ?_⟩ (by omega) (by omega) (by omega)).mono ?_
  · simp
  · intro i s hi
    have hi0 : i = 0 := by have := (List.getElem?_eq_some_iff.1 hi).1; simpa using this
    subst hi0
    obtain rfl : symT = s := by simpa using hi
    refine ⟨none, 0, some ⟨w.heap.size, 0, none⟩, 6, ?_, ?_, ?_, ?_, ?_, ?_, ?_, Row.nil, by decide, by omega, ⟨rfl, fun _ => ⟨_, 0, rfl, by simp; omega, ?_⟩⟩, by decide, by omega⟩
    all_goals try (simp only [symT, Nat.zero_mul, Nat.add_zero, Nat.zero_add]; go_simp; done)
    intro j u hj
    have hj' : j < 6 := by have := (List.getElem?_eq_some_iff.1 hj).1; simpa [symT] using this
    have hu : u = .int .i64 0 := by
      rcases (show j = 0 ∨ j = 1 ∨ j = 2 ∨ j = 3 ∨ j = 4 ∨ j = 5 by omega) with rfl | rfl | rfl | rfl | rfl | rfl <;> (simp [symT] at hj; exact hj.symm)
    subst hu
    refine Eq.trans ?_ (zeros_get 6 j hj')
    rw [Nat.zero_add]
    go_simp
  · intro s hs
    obtain rfl : s = symT := by simpa using hs
    exact symT_ok
  rintro e u ⟨⟨R, c, rfl, hc, hcm, hrow⟩, hb⟩
  have hl : (cellsOf [symT]).length = 6 := by decide +kernel
  have hg : ∀ (j : Nat) (hj : j < 6), (cellsOf [symT])[j]? = some (symT.cell j) := fun j hj => by
    have h1 : cellsOf [symT] = (List.range 6).map symT.cell := by simp [cellsOf, SymD.cells]; rfl
    rw [h1]
    simp [hj]
  have hx := fun (i j : Nat) (hi : i < 6) (hj : j < 6) => flat_get cellCells 6 cellCells_length (cellsOf [symT]) i j _ (hg i hi) hj
  rw [hl] at hrow ⊢
  obtain ⟨b, off, rfl, _, hcell⟩ := hrow.2 (by omega)
  have x0 : u.cell? ⟨b, off, none⟩ = some (.string { data := #[116, 46, 73, 78] }) := hcell 0 _ ((hx 0 0 (by omega) (by omega)).trans rfl)
  have x1 : u.cell? ⟨b, off + 30, none⟩ = some (.string { data := #[116, 46, 82, 85, 78] }) := hcell 30 _ ((hx 5 0 (by omega) (by omega)).trans rfl)
  have x2 : u.cell? ⟨b, off + 5, none⟩ = some (.int .i64 9) := hcell 5 _ ((hx 0 5 (by omega) (by omega)).trans rfl)
  have HB := Lib.hid hb
  clear hb hrow hcell hx hg hl hc hcm
  go_wp2
  go_ret
  refine ⟨rfl, ?_⟩
  exact (((Below.refl _ w).alloc (Nat.le_refl _) _).alloc (by simp) _).trans (HB.out.mono (by simp; omega))
end Go.Proofs.YtgeeicgdgncmpaaDoor
