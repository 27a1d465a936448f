/- Chapter 10: the document's All; an instruction as the document's. -/
import Derived.Test.YtpojffgppejhcaaJ10
import Derived.Test.YtpojffgppejhcaaN10
namespace Go.Proofs.Ytpojffgppejhcaa
open Go.RowKit
set_option linter.unusedVariables false
set_option linter.unusedSimpArgs false

theorem ropInfo : (Try.prog.info? 29).map (fun i => (i.zero, i.size, i.bytes)) = some (some (.agg #[.int .i64 0, .int .i64 0, .int .i64 0, .int .i64 0, .int .i64 0]), 5, 40) := by kernel_rfl
theorem ropRow : Try.prog.underlying 36 = some (.slice 29) := by kernel_rfl

set_option maxHeartbeats 8000000 in
theorem rall_core (R : List (Int × Int × Int × Int × Int) × Int) (A : Option Addr) (len cap : Nat) (z : Nat → Int) (w : World) (c : Came w A len cap fun j => .int .u8 (z j)) (hl : len ≤ 10000) (hz : ∀ i, i < len → 0 ≤ z i ∧ z i < 256) (hR0 : runL z len (len + 1) 0 [] = R) :
    Calls Try.prog 14 #[.slice A len cap] w fun e w' => (∃ B n, e = .returned (.tuple #[.slice B R.1.length n, .int .i64 R.2]) ∧
      RowAt B w.heap.size R.1 w') ∧ Below w.heap.size w w' := by
  obtain ⟨i0, hi, hz0, hz1, hz2⟩ := info_parts ropInfo
  have t27 := ropRow
  have HC := Lib.hid c
  have HZ := Lib.hid hz
  have hl' : (len : Int) ≤ 10000 := by omega
  have HR0 := Lib.hid hR0
  clear c hz hR0
  go_enter Try.func14, Try.ntmps14
  go_wp2_with fail
  go_loopw [4, 5] (fun out i wr => AllRel z len R 29 w out i wr) (fun _ i _ => len - (intOf i).toNat)
  case atStart => exact ⟨0, len + 1, [], rfl, Nat.le_refl _, by omega, by omega, HR0.out, fun _ => rfl, World.ownsRow_nil _ _ _ _, Below.refl _ _⟩
  case round =>
    obtain ⟨k, f, L, rfl, hLk, hk, hf, hR, hnil, hown, hb⟩ := hrel
    by_cases hlt : k < len
    · obtain ⟨f', rfl⟩ : ∃ f', f = f' + 1 := ⟨f - 1, by omega⟩
      have hlt' : (k : Int) < len := by omega
      have hR' : (if (rd z len k).2 = 0 then runL z len f' (rd z len k).1.2.1 (L ++ [(rd z len k).1]) else ([], (rd z len k).2)) = R := by
        rw [← hR]; simp only [runL, if_pos hlt']
      have hok := rd_ok (z := z) hlt
      have CR := Lib.hid (rread_any A len cap z k wr ⟨HC.out.le, HC.out.max, fun h => by
        obtain ⟨b, off, h1, h2, h3⟩ := HC.out.at_ h
        exact ⟨b, off, h1, by have := hb.size; omega, fun i hi => (hb.cell (p := ⟨b, off + i, none⟩) h2).trans (h3 i hi)⟩⟩ (by omega) HZ.out)
      have HB := Lib.hid hb
      have HO := Lib.hid hown
      have HR := Lib.hid hR'
      have HK := Lib.hid hok
      clear hb hown hR hnil hR' hok
      generalize hr : rd z len k = r at *
      obtain ⟨⟨a0, a1, a2, a3, a4⟩, er⟩ := r
      have HRD := Lib.hid hr
      clear hr
      simp only [rdV, opT] at CR
      go_wp2_with fail
      refine CR.out.mono ?_
      rintro e u ⟨rfl, hbu⟩
      have HU := Lib.hid (HB.out.trans (hbu.mono HB.out.size))
      have hsz : w.heap.size ≤ u.heap.size := HU.out.size
      have HOU := Lib.hid (owns_keep HO.out hbu)
      clear hbu CR
      by_cases he : er = 0
      · subst he
        obtain ⟨k', hk', hkk, hkl⟩ := HK.out rfl
        have hk'' : a1 = k' := hk'
        subst hk''
        clear hk' HK
        go_wp2_with (at_builtin; refine wpList_append_own _ rfl _ _ 36 rfl w.heap.size 29 i0 _ 5 40 t27 hi hz0 hz1 hz2 rfl (by decide) _ L.length (rowCells L) rfl ((HOU.out.alloc _).alloc _) ⟨u.heap.size + 1, 0, none⟩ 1 1 (opCells (a0, (k' : Int), a2, a3, a4)) rfl ?qc1 ?qc2 ?qc3 ?qc4 ?qc5 ?qc6 ?_)
        case qc1 => rfl
        case qc2 =>
          intro j u hj
          rw [Addr.add_lit]
          have hj' : j < 5 := by have := (List.getElem?_eq_some_iff.1 hj).1; simpa [opCells] using this
          rcases (show j = 0 ∨ j = 1 ∨ j = 2 ∨ j = 3 ∨ j = 4 by omega) with rfl | rfl | rfl | rfl | rfl <;> (simp [opCells] at hj; subst hj; go_simp)
        case qc3 => intro u hu; exact rowCells_one [(a0, (k' : Int), a2, a3, a4)] u (by simpa [rowCells] using hu)
        case qc4 => unfold maxLen; omega
        case qc5 => omega
        case qc6 => simp; omega
        intro v' w1 hown hgrow hnil
        have HO1 := Lib.hid hown
        have HB1 := Lib.hid (show Below w.heap.size w w1 from ((HU.out.alloc hsz _).alloc (by simp; omega) _).grown hgrow (by simp; omega) (fun k hk => (HOU.out.lt k hk).1))
        have HCO := Lib.hid (show ∀ i (u1 : Value), (opCells (a0, (k' : Int), a2, a3, a4))[i]? = some u1 → w1.cell? ⟨u.heap.size, i, none⟩ = some u1 by
          intro i u1 h1
          have hne := owns_ne HOU.out
          rw [World.cell?_of_block (w := (u.alloc _).alloc _) (hgrow.block u.heap.size (by simp; omega) (fun e => hne e.symm))]
          have hj' : i < 5 := by have := (List.getElem?_eq_some_iff.1 h1).1; simpa [opCells] using this
          rcases (show i = 0 ∨ i = 1 ∨ i = 2 ∨ i = 3 ∨ i = 4 by omega) with rfl | rfl | rfl | rfl | rfl <;> (simp [opCells] at h1; subst h1; go_simp))
        have hc1 : w1.cell? ⟨u.heap.size, 1, none⟩ = some (.int .i64 k') := HCO.out 1 _ rfl
        clear hown hgrow hnil
        go_wp2
        go_roundw
        case rel =>
          refine ⟨k', f', L ++ [(a0, (k' : Int), a2, a3, a4)], rfl, by simp; omega, hkl, by omega, ?_, fun h => by simp at h, ?_, HB1.out⟩
          · have := HR.out
            simpa using this
          · rw [rowCells_add, List.length_append]
            exact HO1.out
        case measure => simp [intOf]; omega
      · have he' : (er == 0) = false := by simpa using he
        obtain rfl : R = ([], er) := by rw [← HR.out]; exact if_neg he
        clear he HK
        go_wp2
        go_ret2
        exact ⟨⟨none, ⟨0, rfl⟩, fun h => by simp at h⟩, HU.out.alloc hsz _⟩
    · have hkl : k = len := by omega
      subst hkl
      obtain rfl : R = (L, 0) := by
        rw [← hR]
        cases f with
        | zero => rfl
        | succ f => simp only [runL, if_neg (show ¬ ((k : Int) < k) by omega)]
      have hown' := owns_cells hown
      obtain ⟨A1, c1, rfl, h1, h2, h3⟩ := hown'
      have hnn : L.length = 0 → A1 = none := by
        intro h
        have := hnil (List.length_eq_zero_iff.1 h)
        simp at this
        exact this.1
      have HB := Lib.hid hb
      have H3 := Lib.hid h3
      clear hb hown hR hnil h1 h2 h3 hnn HR0
      go_wp2
      go_ret2
      refine ⟨⟨A1, ⟨c1, rfl⟩, fun h => ?_⟩, HB.out⟩
      obtain ⟨b, h1, h2, h3, h4⟩ := H3.out h
      exact ⟨b, h1, h2, h3, h4⟩

theorem rall_any (A : Option Addr) (len cap : Nat) (z : Nat → Int) (w : World) (c : Came w A len cap fun j => .int .u8 (z j)) (hl : len ≤ 10000) (hz : ∀ i, i < len → 0 ≤ z i ∧ z i < 256) :
    Calls Try.prog 14 #[.slice A len cap] w fun e w' => (∃ B n, e = .returned (.tuple #[.slice B (runL z len (len + 1) 0 []).1.length n, .int .i64 (runL z len (len + 1) 0 []).2]) ∧
      RowAt B w.heap.size (runL z len (len + 1) 0 []).1 w') ∧ Below w.heap.size w w' := rall_core _ A len cap z w c hl hz rfl

set_option maxHeartbeats 2000000 in
theorem of_any (a0 a1 a2 a3 a4 : Int) (w : World) : Calls Try.prog 12 #[.agg #[.int .i64 a0, .int .i64 a1, .int .i64 a2, .int .i64 a3, .int .i64 a4]] w fun e w' =>
    e = .returned (.agg #[.int .i64 a0, .int .i64 a1, .int .i64 a2, .int .i64 a3, .int .i64 a4]) ∧ Below w.heap.size w w' := by
  go_enter Try.func12, Try.ntmps12
  go_wp2
  refine bodyPost_ret (v := .agg #[.int .i64 a0, .int .i64 a1, .int .i64 a2, .int .i64 a3, .int .i64 a4]) ((fun (W : World) (h : Cells5 W (w.heap.size + 1) a0 a1 a2 a3 a4) => (by obtain ⟨c0, c1, c2, c3, c4⟩ := h; simp [results, Try.results12, go_sem, c0, c1, c2, c3, c4] : (results _ _).run _ W = .ok _ W)) _ ?_) rfl ⟨rfl, ?_⟩
  · constructor <;> go_simp
  repeat (first | (with_reducible exact Below.refl _ _) | (with_reducible refine Below.setCell ?_ (by first | omega | (simp; done) | (simp; omega)) _) | (with_reducible refine Below.alloc ?_ (by first | omega | (simp; done) | (simp; omega)) _))
end Go.Proofs.Ytpojffgppejhcaa
