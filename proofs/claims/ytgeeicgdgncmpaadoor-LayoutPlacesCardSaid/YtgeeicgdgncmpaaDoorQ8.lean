/- Chapter 7: the law's good type, of any raw one. -/
import Derived.Test.YtgeeicgdgncmpaaDoorP8
import Derived.Test.YtgeeicgdgncmpaaDoorRB8
import Derived.Test.YtgeeicgdgncmpaaDoorOw8
import Derived.Deep.RegionHeld3
import Derived.Deep.RegionLaw
import Derived.BigRegion
namespace Go.Proofs.YtgeeicgdgncmpaaDoor
open Go.RowKit
set_option linter.unusedVariables false
set_option linter.unusedSimpArgs false
attribute [local go_sem ↓] Go.wp_at_zero Go.wp_at_succ

/-- A type such as may be. -/
structure GoodT (k n : Int) (l : List FieldD) : Prop where
  kind : 1 ≤ k ∧ k ≤ 10
  arr : k = 7 → 1 ≤ n ∧ n ≤ 8
  str : k = 8 → 1 ≤ l.length
  len : l.length ≤ 4
  names : ∀ f ∈ l, f.name.size ≤ 2
theorem GoodT.size {k n : Int} {l : List FieldD} (h : GoodT k n l) : 1 ≤ sizeOf8 k n l ∧ sizeOf8 k n l ≤ 8 := by
  obtain ⟨⟨h1, h2⟩, h3, h4, h5, h6⟩ := h
  unfold sizeOf8
  split
  · omega
  split
  · rename_i h7; exact h3 h7
  · unfold fieldsOf
    split
    · rename_i h8
      have := h4 h8
      omega
    split
    · simp [tonF]
    split
    · simp [ctuF]
    · omega

/-- What is told of a good type. -/
def GoodBack (w : World) (e' : Ending) (w' : World) : Prop :=
  ∃ (k' e1 n1 : Int) (l' : List FieldD) (v : Value), e' = .returned (.agg #[.int .i64 k', .int .i64 e1, .int .i64 n1, v]) ∧ GoodT k' n1 l' ∧ w'.ownsRow w.heap.size 39 2 v l'.length (fieldRow l') ∧ Below w.heap.size w w'

def zeroT : Array Value := #[.int .i64 0, .int .i64 0, .int .i64 0, .slice none 0 0]
def Good7Rel (w : World) (top : Nat) (tc : Array Value) (i : Value) (wr : World) : Prop :=
  ∃ (j : Nat) (l' : List FieldD) (v : Value), i = .int .i64 j ∧ j ≤ top ∧ l'.length = j ∧ (∀ f ∈ l', f.name.size ≤ 2) ∧ wr.heap[w.heap.size]? = some (.cells tc 31 (0, 0)) ∧ wr.heap[w.heap.size + 1]? = some (.cells zeroT 31 (0, 0)) ∧
    wr.heap[w.heap.size + 1 + 1]? = some (.cells #[.int .i64 8, .int .i64 0, .int .i64 0, v] 31 (0, 0)) ∧ wr.ownsRow w.heap.size 39 2 v j (fieldRow l') ∧ Below w.heap.size w wr

theorem fieldRow_snoc (l : List FieldD) (f : FieldD) : fieldRow (l ++ [f]) = fieldRow l ++ fieldCells f := by simp [fieldRow]

theorem field_news {W : World} {g : Nat} {a : ByteArray} {b : Int} (h0 : W.cell? ⟨g, 0, none⟩ = some (.string a)) (h1 : W.cell? ⟨g, 1, none⟩ = some (.int .i64 b)) : ∀ (j : Nat) (u : Value), (fieldCells ⟨a, b⟩)[j]? = some u → W.cell? ((⟨g, 0, none⟩ : Addr).add j) = some u := by
  intro j u hj
  rw [Addr.add_lit]
  rcases j with _ | _ | j
  · simp [fieldCells] at hj; subst hj; simpa using h0
  · simp [fieldCells] at hj; subst hj; simpa using h1
  · simp [fieldCells] at hj
/-- What stands behind an append to the good type's fields. -/
def GoodApp (w w1 : World) (tc : Array Value) (v : Value) : Prop := Below w.heap.size w w1 ∧ w1.heap[w.heap.size]? = some (.cells tc 31 (0, 0)) ∧ w1.heap[w.heap.size + 1]? = some (.cells zeroT 31 (0, 0)) ∧ w1.heap[w.heap.size + 1 + 1]? = some (.cells #[.int .i64 8, .int .i64 0, .int .i64 0, v] 31 (0, 0))
theorem good_app {w wr wa w1 : World} {tc : Array Value} {v : Value} {n : Nat} {xs : List Value} (hb : Below w.heap.size w wr) (ho : wr.ownsRow w.heap.size 39 2 v n xs) (hba : Below wr.heap.size wr wa) (hg : wa.grownBy w1 v.ownBlock)
    (ht : wr.heap[w.heap.size]? = some (.cells tc 31 (0, 0))) (hz : wr.heap[w.heap.size + 1]? = some (.cells zeroT 31 (0, 0))) (hx : wr.heap[w.heap.size + 1 + 1]? = some (.cells #[.int .i64 8, .int .i64 0, .int .i64 0, v] 31 (0, 0))) : GoodApp w w1 tc v :=
  have ha := row_keep ho hba
  ⟨(hb.trans (hba.mono hb.size)).grown hg (Nat.le_trans hb.size hba.size) (fun k hk => (ho.lt k hk).1), box_kept ha hg ((hba.block _ (heap_some_lt' ht)).trans ht) (by decide), box_kept ha hg ((hba.block _ (heap_some_lt' hz)).trans hz) (by decide), box_kept ha hg ((hba.block _ (heap_some_lt' hx)).trans hx) (by decide)⟩
theorem good_x3 {w w1 : World} {tc : Array Value} {v : Value} (h : GoodApp w w1 tc v) : w1.cell? ⟨w.heap.size + 1 + 1, 3, none⟩ = some v := cell_of_heap h.2.2.2 3
theorem good_f3 {w w1 : World} {tc : Array Value} {v : Value} (h : GoodApp w w1 tc v) : w1.frozen? ⟨w.heap.size + 1 + 1, 3, none⟩ = false := frozen_of_row w1 _ 3 _ _ h.2.2.2

theorem good_step {w w1 : World} {tc : Array Value} {VA A1 : Option Addr} {VC C1 j top : Nat} {l' : List FieldD} {D : ByteArray} {k6 : Int} (h : GoodApp w w1 tc (.slice VA j VC)) (ho : w1.ownsRow w.heap.size 39 2 (.slice A1 (j + 1) C1) (j + 1) (fieldRow l' ++ fieldCells ⟨{ data := #[102] } ++ D, 1 + k6⟩))
    (hl : l'.length = j) (hn : ∀ f ∈ l', f.name.size ≤ 2) (hD : D.size = 1) (hj : j < top) :
    Good7Rel w top tc (.int .i64 ((j : Int) + 1)) (w1.setCell ⟨w.heap.size + 1 + 1, 3, none⟩ (.slice A1 (j + 1) C1)) ∧ top - (intOf (.int .i64 ((j : Int) + 1))).toNat < top - (intOf (.int .i64 (j : Int))).toNat := by
  obtain ⟨hb, ht, hz, hx⟩ := h
  refine ⟨⟨j + 1, l' ++ [⟨{ data := #[102] } ++ D, 1 + k6⟩], .slice A1 (j + 1) C1, rfl, by omega, by simp [hl], fun f hf => ?_, heap_setN ht _ _ (by simp; omega), heap_setN hz _ _ (by simp), ?_, ?_, hb.setCell (by simp; omega) _⟩, ?_⟩
  · rcases List.mem_append.1 hf with hf | hf
    · exact hn f hf
    · simp at hf
      subst hf
      show ({ data := #[102] } ++ D : ByteArray).size ≤ 2
      rw [ByteArray.size_append, hD]
      decide
  · have h3 := heap_setCell_same w1 (w.heap.size + 1 + 1) 3 _ _ (Value.slice A1 (j + 1) C1) hx
    simpa using h3
  · rw [fieldRow_snoc]
    exact own_setFar8 ho (owns_other ho hx (by decide)) _
  · simp [intOf]; omega

set_option maxHeartbeats 8000000 in
set_option maxRecDepth 100000 in
theorem good7_any (k e n : Int) (A : Option Addr) (m c : Nat) (l : List FieldD) (w : World) (hr : Row w w.heap.size 2 A m (fieldRow l)) (hml : m = l.length) (hc : m ≤ c) (hcm : c ≤ 9223372036854775807) :
    Calls Tryd.prog 13 #[.agg #[.int .i64 k, .int .i64 e, .int .i64 n, .slice A m c]] w (GoodBack w) := by
  subst hml
  have HR := Lib.hid hr
  have hc1 : (l.length : Int) ≤ c := by omega
  have hc2 : (c : Int) ≤ 9223372036854775807 := by omega
  clear hr
  have W10 := Lib.hid (fun u => within7_any k 10 (by decide) (by decide) u)
  have W6 := Lib.hid (fun x u => within7_any x 6 (by decide) (by decide) u)
  have W8 := Lib.hid (fun u => within7_any n 8 (by decide) (by decide) u)
  have W4 := Lib.hid (fun u => within7_any n 4 (by decide) (by decide) u)
  have q0 : 0 ≤ k % 10 := by omega
  have q1 : k % 10 < 10 := by omega
  generalize k % 10 = kk at *
  have r0 : 0 ≤ n % 8 := by omega
  have r1 : n % 8 < 8 := by omega
  generalize n % 8 = n8 at *
  have s0 : 0 ≤ n % 4 := by omega
  have s1 : n % 4 < 4 := by omega
  generalize n % 4 = n4 at *
  have t0 : 0 ≤ e % 6 := by omega
  have t1 : e % 6 < 6 := by omega
  by_cases h7 : kk = 6
  · subst h7
    have W6e := Lib.hid (W6.out e)
    generalize e % 6 = e6 at *
    go_enter Tryd.func13, Tryd.ntmps13
    go_wp2_with fail
    refine (W10.out _).mono ?_
    rintro e' _ ⟨rfl, rfl⟩
    go_wp2_with fail
    go_region_held3 (fun w' => w'.cell? ⟨w.heap.size, 1, none⟩ = some (.int .i64 e) ∧ w'.cell? ⟨w.heap.size, 2, none⟩ = some (.int .i64 n)) (go_keep)
      (first | (go_at_call 22; (with_reducible refine (W6e.out _).mono ?_); rintro e' w' ⟨rfl, rfl⟩) | (go_at_call 22; (with_reducible refine (W8.out _).mono ?_); rintro e' w' ⟨rfl, rfl⟩))
    all_goals (go_wp2_with fail)
    all_goals (refine bodyPost_ret (v := .agg #[.int .i64 7, .int .i64 (1 + e6), .int .i64 (1 + n8), .slice none 0 0]) (by simp [results, Tryd.results13, go_sem]) rfl ⟨7, 1 + e6, 1 + n8, [], .slice none 0 0, rfl, ⟨by omega, fun _ => by omega, fun h => by omega, by simp, by simp⟩, World.ownsRow_nil _ _ _ _, (by repeat (first | (with_reducible exact HB1.out) | (with_reducible exact HB.out) | (with_reducible exact Below.refl _ _) | (with_reducible refine Below.setCell ?_ (by first | omega | (simp; done) | (simp; omega)) _) | (with_reducible refine Below.drew ?_) | (with_reducible refine Below.alloc ?_ (by first | omega | (simp; done) | (simp; omega)) _)))⟩)
  by_cases h8 : kk = 7
  · subst h8
    clear h7 r0 r1 W8
    obtain ⟨top, htop⟩ : ∃ t : Nat, 1 + n4 = (t : Int) := ⟨(1 + n4).toNat, by omega⟩
    have ht1 : 1 ≤ top := by omega
    have ht4 : top ≤ 4 := by omega
    have HTOP := Lib.hid htop
    clear t0 t1
    go_enter Tryd.func13, Tryd.ntmps13
    go_wp2_with fail
    refine (W10.out _).mono ?_
    rintro e' _ ⟨rfl, rfl⟩
    clear htop
    go_wp2_with fail
    go_loopw [4] (fun i wr => Good7Rel w top #[.int .i64 k, .int .i64 e, .int .i64 n, .slice A l.length c] i wr) (fun i _ => top - (intOf i).toNat)
    case atStart => exact ⟨0, [], .slice none 0 0, rfl, Nat.zero_le _, rfl, by simp, heap_alloc (heap_alloc (heap_new w _) _) _, heap_alloc (heap_newN _ (by simp)) _, heap_newN _ (by simp), World.ownsRow_nil _ _ _ _, (by repeat (first | (with_reducible exact HB1.out) | (with_reducible exact HB.out) | (with_reducible exact Below.refl _ _) | (with_reducible refine Below.setCell ?_ (by first | omega | (simp; done) | (simp; omega)) _) | (with_reducible refine Below.drew ?_) | (with_reducible refine Below.alloc ?_ (by first | omega | (simp; done) | (simp; omega)) _)))⟩
    case round =>
      obtain ⟨j, l', v, rfl, hj, hl', hnm, hbt, hbz, hbx, hown, hb⟩ := hrel
      have HNM := Lib.hid hnm
      have HL' := Lib.hid hl'
      have hz := hb.size
      obtain ⟨VA, VC, rfl, hvc, hvm⟩ := own_slice hown
      unfold maxLen at hvm
      have hvc' : (j : Int) ≤ VC := by omega
      have bt1 : wr.cell? ⟨w.heap.size, 1, none⟩ = some (.int .i64 e) := cell_of_heap hbt 1
      have bt2 : wr.cell? ⟨w.heap.size, 2, none⟩ = some (.int .i64 n) := cell_of_heap hbt 2
      have bt3 : wr.cell? ⟨w.heap.size, 3, none⟩ = some (.slice A l.length c) := cell_of_heap hbt 3
      have bx0 : wr.cell? ⟨w.heap.size + 1 + 1, 0, none⟩ = some (.int .i64 8) := cell_of_heap hbx 0
      have bx1 : wr.cell? ⟨w.heap.size + 1 + 1, 1, none⟩ = some (.int .i64 0) := cell_of_heap hbx 1
      have bx2 : wr.cell? ⟨w.heap.size + 1 + 1, 2, none⟩ = some (.int .i64 0) := cell_of_heap hbx 2
      have bx3 : wr.cell? ⟨w.heap.size + 1 + 1, 3, none⟩ = some (.slice VA j VC) := cell_of_heap hbx 3
      have fx3 : wr.frozen? ⟨w.heap.size + 1 + 1, 3, none⟩ = false := frozen_of_row wr _ 3 _ _ hbx
      have bz0 : wr.cell? ⟨w.heap.size + 1, 0, none⟩ = some (.int .i64 0) := cell_of_heap hbz 0
      have bz1 : wr.cell? ⟨w.heap.size + 1, 1, none⟩ = some (.int .i64 0) := cell_of_heap hbz 1
      have bz2 : wr.cell? ⟨w.heap.size + 1, 2, none⟩ = some (.int .i64 0) := cell_of_heap hbz 2
      have bz3 : wr.cell? ⟨w.heap.size + 1, 3, none⟩ = some (.slice none 0 0) := cell_of_heap hbz 3
      have fz0 : wr.frozen? ⟨w.heap.size + 1, 0, none⟩ = false := frozen_of_row wr _ 0 _ _ hbz
      have fz1 : wr.frozen? ⟨w.heap.size + 1, 1, none⟩ = false := frozen_of_row wr _ 1 _ _ hbz
      have fz2 : wr.frozen? ⟨w.heap.size + 1, 2, none⟩ = false := frozen_of_row wr _ 2 _ _ hbz
      have fz3 : wr.frozen? ⟨w.heap.size + 1, 3, none⟩ = false := frozen_of_row wr _ 3 _ _ hbz
      have HBT := Lib.hid hbt
      have HBZ := Lib.hid hbz
      have HBX := Lib.hid hbx
      have HO := Lib.hid hown
      have HB := Lib.hid hb
      have hzx : w.heap.size + 1 + 1 < wr.heap.size := heap_some_lt' hbx
      have HNZ := Lib.hid (show (Value.slice VA j VC).ownBlock ≠ some (w.heap.size + 1) from owns_other hown hbz (by decide))
      clear hnm hl' hbt hbz hbx hown
      by_cases hjt : j < top
      · have hjt' : (j : Int) < top := by omega
        go_wp2_with fail
        refine (W4.out _).mono ?_
        rintro e' _ ⟨rfl, rfl⟩
        go_upto_if 32 with fail
        simp only [HTOP.out]
        go_upto_if 43 with fail
        go_cut [5] (fun x wx => (∃ z : Int, x = .int .i64 z) ∧ wr = wx)
        case first =>
          by_cases hjl : j < l.length
          · have hjl' : (j : Int) < l.length := by omega
            obtain ⟨x, hx⟩ : ∃ x, l[j]? = some x := ⟨_, List.getElem?_eq_getElem hjl⟩
            obtain ⟨b, off, rfl, hbl, hcell⟩ := HR.out.2 (by omega)
            have e1 : wr.cell? ⟨b, off + j * 2 + 1, none⟩ = some (.int .i64 x.kind) := by
              have h := hcell (j * 2 + 1) _ ((flat_get fieldCells 2 fieldCells_length l j 1 x hx (by omega)).trans rfl)
              rw [← Nat.add_assoc] at h
              exact (dcell hb hbl _).trans h
            clear hcell hx hb
            go_wp2
            go_meet
            exact ⟨⟨_, rfl⟩, rfl⟩
          · have hjl' : (l.length : Int) ≤ j := by omega
            clear hb
            go_wp2
            go_meet
            exact ⟨⟨_, rfl⟩, rfl⟩
        case rest =>
        obtain ⟨⟨z, rfl⟩, rfl⟩ := hcut
        obtain ⟨i0, hi, hz0, hz1, hz2⟩ := info_parts fieldInfo8
        have t27 := fieldTy8
        have W6z := Lib.hid (W6.out z)
        generalize hk6 : z % 6 = k6 at *
        have k60 : 0 ≤ k6 ∧ k6 < 6 := by omega
        obtain ⟨k61, k62⟩ := k60
        have HZ6 := Lib.hid hk6
        clear hk6
        have cv := fun (W : World) (g : Nat) (q : Int) (h : W.cell? ⟨g, 0, none⟩ = some (.int .u8 q)) => run_convert_bytes_arg (P := Tryd.prog) W 40 5 Tryd.underlying40 Tryd.underlying5 g 0 1 1 [q] rfl (fun i hi => by
          obtain rfl : i = 0 := by omega
          exact h) 9 Tryd.underlying9
        have hj4 : (j : Int) < 4 := by omega
        have hj00 : (0 : Int) ≤ j := by omega
        have i1 : IntKind.i64.wrap (48 + (j : Int)) = 48 + j := by simp [IntKind.wrap, IntKind.bits, IntKind.signed]; omega
        have i3 : IntKind.i64.wrap (1 + k6) = 1 + k6 := by simp [IntKind.wrap, IntKind.bits, IntKind.signed]; omega
        have i2 : IntKind.u8.wrap (48 + (j : Int)) = 48 + j := by simp [IntKind.wrap, IntKind.bits, IntKind.signed]; omega
        have c1 := cv (wr.alloc (.cells #[.int .u8 (48 + (j : Int))] 5)).drew wr.heap.size (48 + (j : Int)) (by go_simp)
        have c2 := cv (wr.alloc (.cells #[.int .u8 (48 + (j : Int))] 5)) wr.heap.size (48 + (j : Int)) (by go_simp)
        have hsz1 : (strOfNums [48 + (j : Int)]).size = 1 := by rw [strOfNums_size]; rfl
        have hsz1' : ((strOfNums [48 + (j : Int)]).size : Int) = 1 := by omega
        have HS1 := Lib.hid hsz1
        generalize strOfNums [48 + (j : Int)] = D at *
        have hsz2 : ¬ 9223372036854775807 < 1 + D.size := by omega
        clear cv hsz1 hb
        obtain ⟨FD, hFD⟩ : ∃ f : FieldD, f = ⟨{ data := #[102] } ++ D, 1 + k6⟩ := ⟨_, rfl⟩
        have HFD := Lib.hid hFD
        have hzx2 : w.heap.size + 1 + 1 < wr.heap.size + 1 := by omega
        have hzx3 : w.heap.size + 1 + 1 < wr.heap.size + 1 + 1 := by omega
        have hne1 : ¬ w.heap.size + 1 + 1 = wr.heap.size := by omega
        have hne2 : ¬ w.heap.size + 1 + 1 = wr.heap.size + 1 := by omega
        have hne3 : ¬ w.heap.size + 1 = wr.heap.size := by omega
        have hzy1 : w.heap.size + 1 < wr.heap.size := by omega
        clear hFD
        go_wp2_with fail
        go_region_law (first
          | (go_simp; go_at_call 22; (with_reducible refine (W6z.out _).mono ?_); rintro e' w' ⟨rfl, rfl⟩)
          | (refine step_append_own rfl _ _ 29 rfl w.heap.size 39 i0 _ 2 24 t27 hi hz0 hz1 hz2 rfl (by decide) (.slice VA j VC) j (fieldRow l') rfl (row_keep HO.out (by repeat (first | (with_reducible exact Below.refl _ _) | (with_reducible refine Below.drew ?_) | (with_reducible refine Below.alloc ?_ (by first | omega | (simp; done) | (simp; omega)) _)))) ⟨_, 0, none⟩ 1 1 (fieldCells ⟨{ data := #[102] } ++ D, 1 + k6⟩) rfl rfl (field_news (by go_simp) (by go_simp)) (fieldCells_one _) (by unfold maxLen; omega) (by omega) (by first | omega | (simp; done) | (simp; omega)) ?_; intro v1 w1 hown hgrow hnil; have hga := good_app HB.out HO.out (by repeat (first | (with_reducible exact Below.refl _ _) | (with_reducible refine Below.drew ?_) | (with_reducible refine Below.alloc ?_ (by first | omega | (simp; done) | (simp; omega)) _))) hgrow HBT.out HBZ.out HBX.out; obtain ⟨A1, C1, rfl, _, _⟩ := own_slice hown; have HGA := Lib.hid hga; have HO1 := Lib.hid hown; have gx3 := good_x3 hga; have hx3 := good_f3 hga; clear hown hgrow hnil hga))
        all_goals (try go_wp2_with fail)
        all_goals exact good_step HGA.out HO1.out HL'.out HNM.out HS1.out hjt
      · have hjt' : j = top := by omega
        subst hjt'
        clear hb
        go_wp2_with fail
        refine (W4.out _).mono ?_
        rintro e' _ ⟨rfl, rfl⟩
        go_upto_if 32 with fail
        simp only [HTOP.out]
        go_wp2_with fail
        refine bodyPost_ret (v := .agg #[.int .i64 8, .int .i64 0, .int .i64 0, .slice VA j VC]) ((fun (W : World) (h : W.cell? ⟨w.heap.size + 1, 0, none⟩ = some (.int .i64 8) ∧ W.cell? ⟨w.heap.size + 1, 1, none⟩ = some (.int .i64 0) ∧ W.cell? ⟨w.heap.size + 1, 2, none⟩ = some (.int .i64 0) ∧ W.cell? ⟨w.heap.size + 1, 3, none⟩ = some (.slice VA j VC)) => (by obtain ⟨c0, c1, c2, c3⟩ := h; simp [results, Tryd.results13, go_sem, c0, c1, c2, c3] : (results _ _).run _ W = .ok _ W)) _ ⟨by go_simp, by go_simp, by go_simp, by go_simp⟩) rfl ⟨8, 0, 0, l', .slice VA j VC, rfl, ⟨by omega, fun h => by omega, fun _ => by have := HL'.out; omega, by have := HL'.out; omega, HNM.out⟩, by rw [HL'.out]; exact own_setFar8 (own_setFar8 (own_setFar8 (own_setFar8 HO.out HNZ.out _) HNZ.out _) HNZ.out _) HNZ.out _, (by repeat (first | (with_reducible exact HB1.out) | (with_reducible exact HB.out) | (with_reducible exact Below.refl _ _) | (with_reducible refine Below.setCell ?_ (by first | omega | (simp; done) | (simp; omega)) _) | (with_reducible refine Below.drew ?_) | (with_reducible refine Below.alloc ?_ (by first | omega | (simp; done) | (simp; omega)) _)))⟩
  · have h7' : (1 + kk == 7) = false := by simp; omega
    have h8' : (1 + kk == 8) = false := by simp; omega
    have N7 := Lib.hid h7
    have N8 := Lib.hid h8
    clear h7 h8 r0 r1 s0 s1 t0 t1
    go_enter Tryd.func13, Tryd.ntmps13
    go_wp2_with fail
    refine (W10.out _).mono ?_
    rintro e' _ ⟨rfl, rfl⟩
    go_wp2_with fail
    refine bodyPost_ret (v := .agg #[.int .i64 (1 + kk), .int .i64 0, .int .i64 0, .slice none 0 0]) (by simp [results, Tryd.results13, go_sem]) rfl ⟨1 + kk, 0, 0, [], .slice none 0 0, rfl, ⟨by omega, fun h => absurd h (by have := N7.out; omega), fun h => absurd h (by have := N8.out; omega), by simp, by simp⟩, World.ownsRow_nil _ _ _ _, (by repeat (first | (with_reducible exact HB1.out) | (with_reducible exact HB.out) | (with_reducible exact Below.refl _ _) | (with_reducible refine Below.setCell ?_ (by first | omega | (simp; done) | (simp; omega)) _) | (with_reducible refine Below.drew ?_) | (with_reducible refine Below.alloc ?_ (by first | omega | (simp; done) | (simp; omega)) _)))⟩
end Go.Proofs.YtgeeicgdgncmpaaDoor
