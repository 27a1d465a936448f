/- The document's chapter 12: an instruction that makes the stack too high; whether it may stand there. -/
import Derived.Test.YtngobbbinacomaaDoorQ19
import Derived.Deep.RegionHeld3
import Derived.BigRegion
namespace Go.Proofs.YtngobbbinacomaaDoor
open Go.RowKit Go.Proofs.YtngobbbinacomaaDoor.c11 Go.Proofs.YtngobbbinacomaaDoor.c10
set_option linter.unusedVariables false
set_option linter.unusedSimpArgs false
attribute [local go_sem ↓] Go.wp_at_zero Go.wp_at_succ
set_option maxHeartbeats 8000000 in
set_option maxRecDepth 100000 in
theorem over_push (A : Option Addr) (c : Nat) (cells : List CellD) (n a0 a1 : Int) (a : Nat) (w : World) (hr : Row w w.heap.size 6 A cells.length (cellRow cells)) (S : Option Addr) (cs m : Nat) (base : List Int) (hs : Row w w.heap.size 1 S (m + 0) ((base ++ []).map (Value.int .i64))) (hm : base.length = m) (hsc : m + 0 ≤ cs) (hm8 : m + 1 = 9) :
    Calls Tryd.prog 64 #[.slice A cells.length c, .agg #[.int .i64 a0, .int .i64 a1, .int .i64 1, .int .i64 a, .int .i64 n], .slice S (m + 0) cs] w (fun e w' => e = .returned (.tuple #[.slice none 0 0, .int .i64 18]) ∧ Below w.heap.size w w') := by
  obtain ⟨i0, hi, hz0, hz1, hz2⟩ := info_parts rcInfo
  have t27 := rcTy
  have HB0 := Lib.hid (show Below w.heap.size w (w.alloc (.cells #[.int .i64 a0, .int .i64 a1, .int .i64 1, .int .i64 a, .int .i64 n] 67)) from (Below.refl _ w).alloc (Nat.le_refl _) _)
  have TK := Lib.hid (fun u => show Calls Tryd.prog 76 #[.int .i64 1] u fun e w' => e = .returned (.int .i64 0) ∧ u = w' from rtakes_any 1 u)
  have HROW := Lib.hid (row_take hs hm)
  have HM := Lib.hid hm
  have hk1 : (m : Int) + 0 ≤ cs := by omega
  have hk2 : decide ((8 : Int) < (m : Int) + 1) = true := decide_eq_true (by omega)
  have hk3 : decide (8 < m + 1) = true := decide_eq_true (by omega)
  have hk4 : (m : Int) ≤ 8 := by omega
  have PU := Lib.hid (fun u (hb : Below w.heap.size w u) => rputs_ok A c cells n a0 a1 a u ((hr.below hb).more hb.size) 1 (.inl rfl))
  generalize putsP cells 1 a = pv at *
  clear hs hm
  go_enter Tryd.func64, Tryd.ntmps64
  go_wp2_with (first | (go_at_call 76; refine (TK.out _).mono ?_; rintro e _ ⟨rfl, rfl⟩) | (at_builtin; refine wpList_append_row _ rfl _ _ 22 rfl w.heap.size 3 i0 _ 1 8 t27 hi hz0 hz1 hz2 rfl (by decide) _ 0 [] rfl ?qo w.heap.size S m cs (base.map (Value.int .i64)) rfl ?qr ?q1 ?q4 ?q5 ?q6 ?_))
  case qo =>
    have h := World.ownsRow_made (base := w.heap.size) (e := 3) (size := 1) (w.alloc (.cells #[.int .i64 a0, .int .i64 a1, .int .i64 1, .int .i64 a, .int .i64 n] 67)) #[] 0 (by simp) (Nat.zero_le _) rfl
    have h' : ((w.alloc (.cells #[.int .i64 a0, .int .i64 a1, .int .i64 1, .int .i64 a, .int .i64 n] 67)).alloc (.cells #[] 3)).ownsRow w.heap.size 3 1 (.slice (some ⟨w.heap.size + 1, 0, none⟩) 0 0) 0 [] := by simpa using h
    exact h'
  case qr => exact (HROW.out.alloc (Nat.le_refl _) _).alloc (by simp) _
  case q1 => intro u hu; obtain ⟨x, _, rfl⟩ := List.mem_map.1 hu; rfl
  case q4 => unfold maxLen; omega
  case q5 => omega
  case q6 => first | omega | (simp; done) | (simp; omega)
  intro v1 w1 hown hgrow hat
  have hb1 : Below w.heap.size w w1 := ((HB0.out).alloc (by simp) _).grown hgrow (by simp; omega) (by intro k hk; simp [Value.ownBlock] at hk; omega)
  have hown' : w1.ownsRow w.heap.size 3 1 v1 m (base.map (Value.int .i64)) := by simpa using hown
  have b1 : w1.cell? ⟨w.heap.size, 3, none⟩ = some (.int .i64 a) := by
    refine (World.cell?_of_block (w := (w.alloc (.cells #[.int .i64 a0, .int .i64 a1, .int .i64 1, .int .i64 a, .int .i64 n] 67)).alloc (.cells #[] 3)) (hgrow.block w.heap.size (by simp; omega) (by simp [Value.ownBlock]))).trans ?_
    go_simp
  have b2 : w1.cell? ⟨w.heap.size, 2, none⟩ = some (.int .i64 1) := by
    refine (World.cell?_of_block (w := (w.alloc (.cells #[.int .i64 a0, .int .i64 a1, .int .i64 1, .int .i64 a, .int .i64 n] 67)).alloc (.cells #[] 3)) (hgrow.block w.heap.size (by simp; omega) (by simp [Value.ownBlock]))).trans ?_
    go_simp
  have b0 : w1.cell? ⟨w.heap.size, 0, none⟩ = some (.int .i64 a0) := by
    refine (World.cell?_of_block (w := (w.alloc (.cells #[.int .i64 a0, .int .i64 a1, .int .i64 1, .int .i64 a, .int .i64 n] 67)).alloc (.cells #[] 3)) (hgrow.block w.heap.size (by simp; omega) (by simp [Value.ownBlock]))).trans ?_
    go_simp
  have b3 : w1.cell? ⟨w.heap.size, 1, none⟩ = some (.int .i64 a1) := by
    refine (World.cell?_of_block (w := (w.alloc (.cells #[.int .i64 a0, .int .i64 a1, .int .i64 1, .int .i64 a, .int .i64 n] 67)).alloc (.cells #[] 3)) (hgrow.block w.heap.size (by simp; omega) (by simp [Value.ownBlock]))).trans ?_
    go_simp
  have b4 : w1.cell? ⟨w.heap.size, 4, none⟩ = some (.int .i64 n) := by
    refine (World.cell?_of_block (w := (w.alloc (.cells #[.int .i64 a0, .int .i64 a1, .int .i64 1, .int .i64 a, .int .i64 n] 67)).alloc (.cells #[] 3)) (hgrow.block w.heap.size (by simp; omega) (by simp [Value.ownBlock]))).trans ?_
    go_simp
  have hz1w := hb1.size
  have HO1 := Lib.hid hown'
  have HB1 := Lib.hid hb1
  clear hown hown' hgrow hat hb1
  go_wp2_with (first | (go_at_call 83; refine (PU.out _ HB1.out).mono ?_; rintro e w2 ⟨rfl, hb2⟩; have HO2 := Lib.hid (row_keep HO1.out hb2); have HB2 := Lib.hid (HB1.out.trans (hb2.mono hz1w)); have hz2w := HB2.out.size; clear hb2) | (at_builtin; refine wpList_append_own _ rfl _ _ 22 rfl w.heap.size 3 i0 _ 1 8 t27 hi hz0 hz1 hz2 rfl (by decide) _ m (base.map (Value.int .i64)) rfl (HO2.out.alloc _) ⟨_, 0, none⟩ 1 1 [.int .i64 pv] rfl ?p1 ?p2 ?p3 ?p4 ?p5 ?p6 ?_))
  case p1 => rfl
  case p2 =>
    intro i u hj
    rw [Addr.add_lit]
    have hj' : i < 1 := by have := (List.getElem?_eq_some_iff.1 hj).1; simpa using this
    rcases (show i = 0 by omega) with rfl <;> (simp at hj; subst hj; go_simp)
  case p3 => intro u hu; simp at hu; subst hu; rfl
  case p4 => unfold maxLen; omega
  case p5 => omega
  case p6 => first | omega | (simp; done) | (simp; omega)
  intro v9 w9 hown hgrow hat
  obtain ⟨R9, c9, hR9, hc91, hc92⟩ := own_slice hown
  subst hR9
  unfold maxLen at hc92
  have HO9 := Lib.hid hown
  have HB9 := Lib.hid (show Below w.heap.size w w9 from ((HB2.out).alloc hz2w _).grown hgrow (by first | omega | (simp; done) | (simp; omega)) (fun k hk => (HO2.out.lt k hk).1))
  clear hown hgrow hat
  go_wp2
  go_ret2
  exact ⟨rfl, HB9.out⟩
set_option maxHeartbeats 8000000 in
set_option maxRecDepth 100000 in
theorem over_now (A : Option Addr) (c : Nat) (cells : List CellD) (n a0 a1 : Int) (a : Nat) (w : World) (hr : Row w w.heap.size 6 A cells.length (cellRow cells)) (S : Option Addr) (cs m : Nat) (base : List Int) (hs : Row w w.heap.size 1 S (m + 0) ((base ++ []).map (Value.int .i64))) (hm : base.length = m) (hsc : m + 0 ≤ cs) (hm8 : m + 1 = 9) :
    Calls Tryd.prog 64 #[.slice A cells.length c, .agg #[.int .i64 a0, .int .i64 a1, .int .i64 26, .int .i64 a, .int .i64 n], .slice S (m + 0) cs] w (fun e w' => e = .returned (.tuple #[.slice none 0 0, .int .i64 18]) ∧ Below w.heap.size w w') := by
  obtain ⟨i0, hi, hz0, hz1, hz2⟩ := info_parts rcInfo
  have t27 := rcTy
  have HB0 := Lib.hid (show Below w.heap.size w (w.alloc (.cells #[.int .i64 a0, .int .i64 a1, .int .i64 26, .int .i64 a, .int .i64 n] 67)) from (Below.refl _ w).alloc (Nat.le_refl _) _)
  have TK := Lib.hid (fun u => show Calls Tryd.prog 76 #[.int .i64 26] u fun e w' => e = .returned (.int .i64 0) ∧ u = w' from rtakes_any 26 u)
  have HROW := Lib.hid (row_take hs hm)
  have HM := Lib.hid hm
  have hk1 : (m : Int) + 0 ≤ cs := by omega
  have hk2 : decide ((8 : Int) < (m : Int) + 1) = true := decide_eq_true (by omega)
  have hk3 : decide (8 < m + 1) = true := decide_eq_true (by omega)
  have hk4 : (m : Int) ≤ 8 := by omega
  have PU := Lib.hid (fun u (hb : Below w.heap.size w u) => rputs_ok A c cells n a0 a1 a u ((hr.below hb).more hb.size) 26 (.inr (.inl rfl)))
  generalize putsP cells 26 a = pv at *
  clear hs hm
  go_enter Tryd.func64, Tryd.ntmps64
  go_wp2_with (first | (go_at_call 76; refine (TK.out _).mono ?_; rintro e _ ⟨rfl, rfl⟩) | (at_builtin; refine wpList_append_row _ rfl _ _ 22 rfl w.heap.size 3 i0 _ 1 8 t27 hi hz0 hz1 hz2 rfl (by decide) _ 0 [] rfl ?qo w.heap.size S m cs (base.map (Value.int .i64)) rfl ?qr ?q1 ?q4 ?q5 ?q6 ?_))
  case qo =>
    have h := World.ownsRow_made (base := w.heap.size) (e := 3) (size := 1) (w.alloc (.cells #[.int .i64 a0, .int .i64 a1, .int .i64 26, .int .i64 a, .int .i64 n] 67)) #[] 0 (by simp) (Nat.zero_le _) rfl
    have h' : ((w.alloc (.cells #[.int .i64 a0, .int .i64 a1, .int .i64 26, .int .i64 a, .int .i64 n] 67)).alloc (.cells #[] 3)).ownsRow w.heap.size 3 1 (.slice (some ⟨w.heap.size + 1, 0, none⟩) 0 0) 0 [] := by simpa using h
    exact h'
  case qr => exact (HROW.out.alloc (Nat.le_refl _) _).alloc (by simp) _
  case q1 => intro u hu; obtain ⟨x, _, rfl⟩ := List.mem_map.1 hu; rfl
  case q4 => unfold maxLen; omega
  case q5 => omega
  case q6 => first | omega | (simp; done) | (simp; omega)
  intro v1 w1 hown hgrow hat
  have hb1 : Below w.heap.size w w1 := ((HB0.out).alloc (by simp) _).grown hgrow (by simp; omega) (by intro k hk; simp [Value.ownBlock] at hk; omega)
  have hown' : w1.ownsRow w.heap.size 3 1 v1 m (base.map (Value.int .i64)) := by simpa using hown
  have b1 : w1.cell? ⟨w.heap.size, 3, none⟩ = some (.int .i64 a) := by
    refine (World.cell?_of_block (w := (w.alloc (.cells #[.int .i64 a0, .int .i64 a1, .int .i64 26, .int .i64 a, .int .i64 n] 67)).alloc (.cells #[] 3)) (hgrow.block w.heap.size (by simp; omega) (by simp [Value.ownBlock]))).trans ?_
    go_simp
  have b2 : w1.cell? ⟨w.heap.size, 2, none⟩ = some (.int .i64 26) := by
    refine (World.cell?_of_block (w := (w.alloc (.cells #[.int .i64 a0, .int .i64 a1, .int .i64 26, .int .i64 a, .int .i64 n] 67)).alloc (.cells #[] 3)) (hgrow.block w.heap.size (by simp; omega) (by simp [Value.ownBlock]))).trans ?_
    go_simp
  have b0 : w1.cell? ⟨w.heap.size, 0, none⟩ = some (.int .i64 a0) := by
    refine (World.cell?_of_block (w := (w.alloc (.cells #[.int .i64 a0, .int .i64 a1, .int .i64 26, .int .i64 a, .int .i64 n] 67)).alloc (.cells #[] 3)) (hgrow.block w.heap.size (by simp; omega) (by simp [Value.ownBlock]))).trans ?_
    go_simp
  have b3 : w1.cell? ⟨w.heap.size, 1, none⟩ = some (.int .i64 a1) := by
    refine (World.cell?_of_block (w := (w.alloc (.cells #[.int .i64 a0, .int .i64 a1, .int .i64 26, .int .i64 a, .int .i64 n] 67)).alloc (.cells #[] 3)) (hgrow.block w.heap.size (by simp; omega) (by simp [Value.ownBlock]))).trans ?_
    go_simp
  have b4 : w1.cell? ⟨w.heap.size, 4, none⟩ = some (.int .i64 n) := by
    refine (World.cell?_of_block (w := (w.alloc (.cells #[.int .i64 a0, .int .i64 a1, .int .i64 26, .int .i64 a, .int .i64 n] 67)).alloc (.cells #[] 3)) (hgrow.block w.heap.size (by simp; omega) (by simp [Value.ownBlock]))).trans ?_
    go_simp
  have hz1w := hb1.size
  have HO1 := Lib.hid hown'
  have HB1 := Lib.hid hb1
  clear hown hown' hgrow hat hb1
  go_wp2_with (first | (go_at_call 83; refine (PU.out _ HB1.out).mono ?_; rintro e w2 ⟨rfl, hb2⟩; have HO2 := Lib.hid (row_keep HO1.out hb2); have HB2 := Lib.hid (HB1.out.trans (hb2.mono hz1w)); have hz2w := HB2.out.size; clear hb2) | (at_builtin; refine wpList_append_own _ rfl _ _ 22 rfl w.heap.size 3 i0 _ 1 8 t27 hi hz0 hz1 hz2 rfl (by decide) _ m (base.map (Value.int .i64)) rfl (HO2.out.alloc _) ⟨_, 0, none⟩ 1 1 [.int .i64 pv] rfl ?p1 ?p2 ?p3 ?p4 ?p5 ?p6 ?_))
  case p1 => rfl
  case p2 =>
    intro i u hj
    rw [Addr.add_lit]
    have hj' : i < 1 := by have := (List.getElem?_eq_some_iff.1 hj).1; simpa using this
    rcases (show i = 0 by omega) with rfl <;> (simp at hj; subst hj; go_simp)
  case p3 => intro u hu; simp at hu; subst hu; rfl
  case p4 => unfold maxLen; omega
  case p5 => omega
  case p6 => first | omega | (simp; done) | (simp; omega)
  intro v9 w9 hown hgrow hat
  obtain ⟨R9, c9, hR9, hc91, hc92⟩ := own_slice hown
  subst hR9
  unfold maxLen at hc92
  have HO9 := Lib.hid hown
  have HB9 := Lib.hid (show Below w.heap.size w w9 from ((HB2.out).alloc hz2w _).grown hgrow (by first | omega | (simp; done) | (simp; omega)) (fun k hk => (HO2.out.lt k hk).1))
  clear hown hgrow hat
  go_wp2
  go_ret2
  exact ⟨rfl, HB9.out⟩
set_option maxHeartbeats 8000000 in
set_option maxRecDepth 100000 in
theorem over_in (A : Option Addr) (c : Nat) (cells : List CellD) (n a0 a1 : Int) (a : Nat) (w : World) (hr : Row w w.heap.size 6 A cells.length (cellRow cells)) (S : Option Addr) (cs m : Nat) (base : List Int) (hs : Row w w.heap.size 1 S (m + 0) ((base ++ []).map (Value.int .i64))) (hm : base.length = m) (hsc : m + 0 ≤ cs) (hm8 : m + 1 = 9) :
    Calls Tryd.prog 64 #[.slice A cells.length c, .agg #[.int .i64 a0, .int .i64 a1, .int .i64 24, .int .i64 a, .int .i64 n], .slice S (m + 0) cs] w (fun e w' => e = .returned (.tuple #[.slice none 0 0, .int .i64 18]) ∧ Below w.heap.size w w') := by
  obtain ⟨i0, hi, hz0, hz1, hz2⟩ := info_parts rcInfo
  have t27 := rcTy
  have HB0 := Lib.hid (show Below w.heap.size w (w.alloc (.cells #[.int .i64 a0, .int .i64 a1, .int .i64 24, .int .i64 a, .int .i64 n] 67)) from (Below.refl _ w).alloc (Nat.le_refl _) _)
  have TK := Lib.hid (fun u => show Calls Tryd.prog 76 #[.int .i64 24] u fun e w' => e = .returned (.int .i64 0) ∧ u = w' from rtakes_any 24 u)
  have HROW := Lib.hid (row_take hs hm)
  have HM := Lib.hid hm
  have hk1 : (m : Int) + 0 ≤ cs := by omega
  have hk2 : decide ((8 : Int) < (m : Int) + 1) = true := decide_eq_true (by omega)
  have hk3 : decide (8 < m + 1) = true := decide_eq_true (by omega)
  have hk4 : (m : Int) ≤ 8 := by omega
  have PU := Lib.hid (fun u (hb : Below w.heap.size w u) => rputs_ok A c cells n a0 a1 a u ((hr.below hb).more hb.size) 24 (.inr (.inr (.inr (.inl rfl)))))
  generalize putsP cells 24 a = pv at *
  clear hs hm
  go_enter Tryd.func64, Tryd.ntmps64
  go_wp2_with (first | (go_at_call 76; refine (TK.out _).mono ?_; rintro e _ ⟨rfl, rfl⟩) | (at_builtin; refine wpList_append_row _ rfl _ _ 22 rfl w.heap.size 3 i0 _ 1 8 t27 hi hz0 hz1 hz2 rfl (by decide) _ 0 [] rfl ?qo w.heap.size S m cs (base.map (Value.int .i64)) rfl ?qr ?q1 ?q4 ?q5 ?q6 ?_))
  case qo =>
    have h := World.ownsRow_made (base := w.heap.size) (e := 3) (size := 1) (w.alloc (.cells #[.int .i64 a0, .int .i64 a1, .int .i64 24, .int .i64 a, .int .i64 n] 67)) #[] 0 (by simp) (Nat.zero_le _) rfl
    have h' : ((w.alloc (.cells #[.int .i64 a0, .int .i64 a1, .int .i64 24, .int .i64 a, .int .i64 n] 67)).alloc (.cells #[] 3)).ownsRow w.heap.size 3 1 (.slice (some ⟨w.heap.size + 1, 0, none⟩) 0 0) 0 [] := by simpa using h
    exact h'
  case qr => exact (HROW.out.alloc (Nat.le_refl _) _).alloc (by simp) _
  case q1 => intro u hu; obtain ⟨x, _, rfl⟩ := List.mem_map.1 hu; rfl
  case q4 => unfold maxLen; omega
  case q5 => omega
  case q6 => first | omega | (simp; done) | (simp; omega)
  intro v1 w1 hown hgrow hat
  have hb1 : Below w.heap.size w w1 := ((HB0.out).alloc (by simp) _).grown hgrow (by simp; omega) (by intro k hk; simp [Value.ownBlock] at hk; omega)
  have hown' : w1.ownsRow w.heap.size 3 1 v1 m (base.map (Value.int .i64)) := by simpa using hown
  have b1 : w1.cell? ⟨w.heap.size, 3, none⟩ = some (.int .i64 a) := by
    refine (World.cell?_of_block (w := (w.alloc (.cells #[.int .i64 a0, .int .i64 a1, .int .i64 24, .int .i64 a, .int .i64 n] 67)).alloc (.cells #[] 3)) (hgrow.block w.heap.size (by simp; omega) (by simp [Value.ownBlock]))).trans ?_
    go_simp
  have b2 : w1.cell? ⟨w.heap.size, 2, none⟩ = some (.int .i64 24) := by
    refine (World.cell?_of_block (w := (w.alloc (.cells #[.int .i64 a0, .int .i64 a1, .int .i64 24, .int .i64 a, .int .i64 n] 67)).alloc (.cells #[] 3)) (hgrow.block w.heap.size (by simp; omega) (by simp [Value.ownBlock]))).trans ?_
    go_simp
  have b0 : w1.cell? ⟨w.heap.size, 0, none⟩ = some (.int .i64 a0) := by
    refine (World.cell?_of_block (w := (w.alloc (.cells #[.int .i64 a0, .int .i64 a1, .int .i64 24, .int .i64 a, .int .i64 n] 67)).alloc (.cells #[] 3)) (hgrow.block w.heap.size (by simp; omega) (by simp [Value.ownBlock]))).trans ?_
    go_simp
  have b3 : w1.cell? ⟨w.heap.size, 1, none⟩ = some (.int .i64 a1) := by
    refine (World.cell?_of_block (w := (w.alloc (.cells #[.int .i64 a0, .int .i64 a1, .int .i64 24, .int .i64 a, .int .i64 n] 67)).alloc (.cells #[] 3)) (hgrow.block w.heap.size (by simp; omega) (by simp [Value.ownBlock]))).trans ?_
    go_simp
  have b4 : w1.cell? ⟨w.heap.size, 4, none⟩ = some (.int .i64 n) := by
    refine (World.cell?_of_block (w := (w.alloc (.cells #[.int .i64 a0, .int .i64 a1, .int .i64 24, .int .i64 a, .int .i64 n] 67)).alloc (.cells #[] 3)) (hgrow.block w.heap.size (by simp; omega) (by simp [Value.ownBlock]))).trans ?_
    go_simp
  have hz1w := hb1.size
  have HO1 := Lib.hid hown'
  have HB1 := Lib.hid hb1
  clear hown hown' hgrow hat hb1
  go_wp2_with (first | (go_at_call 83; refine (PU.out _ HB1.out).mono ?_; rintro e w2 ⟨rfl, hb2⟩; have HO2 := Lib.hid (row_keep HO1.out hb2); have HB2 := Lib.hid (HB1.out.trans (hb2.mono hz1w)); have hz2w := HB2.out.size; clear hb2) | (at_builtin; refine wpList_append_own _ rfl _ _ 22 rfl w.heap.size 3 i0 _ 1 8 t27 hi hz0 hz1 hz2 rfl (by decide) _ m (base.map (Value.int .i64)) rfl (HO2.out.alloc _) ⟨_, 0, none⟩ 1 1 [.int .i64 pv] rfl ?p1 ?p2 ?p3 ?p4 ?p5 ?p6 ?_))
  case p1 => rfl
  case p2 =>
    intro i u hj
    rw [Addr.add_lit]
    have hj' : i < 1 := by have := (List.getElem?_eq_some_iff.1 hj).1; simpa using this
    rcases (show i = 0 by omega) with rfl <;> (simp at hj; subst hj; go_simp)
  case p3 => intro u hu; simp at hu; subst hu; rfl
  case p4 => unfold maxLen; omega
  case p5 => omega
  case p6 => first | omega | (simp; done) | (simp; omega)
  intro v9 w9 hown hgrow hat
  obtain ⟨R9, c9, hR9, hc91, hc92⟩ := own_slice hown
  subst hR9
  unfold maxLen at hc92
  have HO9 := Lib.hid hown
  have HB9 := Lib.hid (show Below w.heap.size w w9 from ((HB2.out).alloc hz2w _).grown hgrow (by first | omega | (simp; done) | (simp; omega)) (fun k hk => (HO2.out.lt k hk).1))
  clear hown hgrow hat
  go_wp2
  go_ret2
  exact ⟨rfl, HB9.out⟩
set_option maxHeartbeats 8000000 in
set_option maxRecDepth 100000 in
theorem over_load (A : Option Addr) (c : Nat) (cells : List CellD) (n a0 a1 : Int) (a : Nat) (w : World) (hr : Row w w.heap.size 6 A cells.length (cellRow cells)) (S : Option Addr) (cs m : Nat) (base : List Int) (hs : Row w w.heap.size 1 S (m + 0) ((base ++ []).map (Value.int .i64))) (hm : base.length = m) (hsc : m + 0 ≤ cs) (hm8 : m + 1 = 9) (hlt : a < cells.length) :
    Calls Tryd.prog 64 #[.slice A cells.length c, .agg #[.int .i64 a0, .int .i64 a1, .int .i64 3, .int .i64 a, .int .i64 n], .slice S (m + 0) cs] w (fun e w' => e = .returned (.tuple #[.slice none 0 0, .int .i64 18]) ∧ Below w.heap.size w w') := by
  obtain ⟨i0, hi, hz0, hz1, hz2⟩ := info_parts rcInfo
  have t27 := rcTy
  have HB0 := Lib.hid (show Below w.heap.size w (w.alloc (.cells #[.int .i64 a0, .int .i64 a1, .int .i64 3, .int .i64 a, .int .i64 n] 67)) from (Below.refl _ w).alloc (Nat.le_refl _) _)
  have TK := Lib.hid (fun u => show Calls Tryd.prog 76 #[.int .i64 3] u fun e w' => e = .returned (.int .i64 0) ∧ u = w' from rtakes_any 3 u)
  have HROW := Lib.hid (row_take hs hm)
  have HM := Lib.hid hm
  have hk1 : (m : Int) + 0 ≤ cs := by omega
  have hk2 : decide ((8 : Int) < (m : Int) + 1) = true := decide_eq_true (by omega)
  have hk3 : decide (8 < m + 1) = true := decide_eq_true (by omega)
  have hk4 : (m : Int) ≤ 8 := by omega
  have PU := Lib.hid (fun u (hb : Below w.heap.size w u) => rputs_ok A c cells n a0 a1 a u ((hr.below hb).more hb.size) 3 (.inr (.inr (.inr (.inr ⟨rfl, hlt⟩)))))
  generalize putsP cells 3 a = pv at *
  clear hs hm
  go_enter Tryd.func64, Tryd.ntmps64
  go_wp2_with (first | (go_at_call 76; refine (TK.out _).mono ?_; rintro e _ ⟨rfl, rfl⟩) | (at_builtin; refine wpList_append_row _ rfl _ _ 22 rfl w.heap.size 3 i0 _ 1 8 t27 hi hz0 hz1 hz2 rfl (by decide) _ 0 [] rfl ?qo w.heap.size S m cs (base.map (Value.int .i64)) rfl ?qr ?q1 ?q4 ?q5 ?q6 ?_))
  case qo =>
    have h := World.ownsRow_made (base := w.heap.size) (e := 3) (size := 1) (w.alloc (.cells #[.int .i64 a0, .int .i64 a1, .int .i64 3, .int .i64 a, .int .i64 n] 67)) #[] 0 (by simp) (Nat.zero_le _) rfl
    have h' : ((w.alloc (.cells #[.int .i64 a0, .int .i64 a1, .int .i64 3, .int .i64 a, .int .i64 n] 67)).alloc (.cells #[] 3)).ownsRow w.heap.size 3 1 (.slice (some ⟨w.heap.size + 1, 0, none⟩) 0 0) 0 [] := by simpa using h
    exact h'
  case qr => exact (HROW.out.alloc (Nat.le_refl _) _).alloc (by simp) _
  case q1 => intro u hu; obtain ⟨x, _, rfl⟩ := List.mem_map.1 hu; rfl
  case q4 => unfold maxLen; omega
  case q5 => omega
  case q6 => first | omega | (simp; done) | (simp; omega)
  intro v1 w1 hown hgrow hat
  have hb1 : Below w.heap.size w w1 := ((HB0.out).alloc (by simp) _).grown hgrow (by simp; omega) (by intro k hk; simp [Value.ownBlock] at hk; omega)
  have hown' : w1.ownsRow w.heap.size 3 1 v1 m (base.map (Value.int .i64)) := by simpa using hown
  have b1 : w1.cell? ⟨w.heap.size, 3, none⟩ = some (.int .i64 a) := by
    refine (World.cell?_of_block (w := (w.alloc (.cells #[.int .i64 a0, .int .i64 a1, .int .i64 3, .int .i64 a, .int .i64 n] 67)).alloc (.cells #[] 3)) (hgrow.block w.heap.size (by simp; omega) (by simp [Value.ownBlock]))).trans ?_
    go_simp
  have b2 : w1.cell? ⟨w.heap.size, 2, none⟩ = some (.int .i64 3) := by
    refine (World.cell?_of_block (w := (w.alloc (.cells #[.int .i64 a0, .int .i64 a1, .int .i64 3, .int .i64 a, .int .i64 n] 67)).alloc (.cells #[] 3)) (hgrow.block w.heap.size (by simp; omega) (by simp [Value.ownBlock]))).trans ?_
    go_simp
  have b0 : w1.cell? ⟨w.heap.size, 0, none⟩ = some (.int .i64 a0) := by
    refine (World.cell?_of_block (w := (w.alloc (.cells #[.int .i64 a0, .int .i64 a1, .int .i64 3, .int .i64 a, .int .i64 n] 67)).alloc (.cells #[] 3)) (hgrow.block w.heap.size (by simp; omega) (by simp [Value.ownBlock]))).trans ?_
    go_simp
  have b3 : w1.cell? ⟨w.heap.size, 1, none⟩ = some (.int .i64 a1) := by
    refine (World.cell?_of_block (w := (w.alloc (.cells #[.int .i64 a0, .int .i64 a1, .int .i64 3, .int .i64 a, .int .i64 n] 67)).alloc (.cells #[] 3)) (hgrow.block w.heap.size (by simp; omega) (by simp [Value.ownBlock]))).trans ?_
    go_simp
  have b4 : w1.cell? ⟨w.heap.size, 4, none⟩ = some (.int .i64 n) := by
    refine (World.cell?_of_block (w := (w.alloc (.cells #[.int .i64 a0, .int .i64 a1, .int .i64 3, .int .i64 a, .int .i64 n] 67)).alloc (.cells #[] 3)) (hgrow.block w.heap.size (by simp; omega) (by simp [Value.ownBlock]))).trans ?_
    go_simp
  have hz1w := hb1.size
  have HO1 := Lib.hid hown'
  have HB1 := Lib.hid hb1
  clear hown hown' hgrow hat hb1
  go_wp2_with (first | (go_at_call 83; refine (PU.out _ HB1.out).mono ?_; rintro e w2 ⟨rfl, hb2⟩; have HO2 := Lib.hid (row_keep HO1.out hb2); have HB2 := Lib.hid (HB1.out.trans (hb2.mono hz1w)); have hz2w := HB2.out.size; clear hb2) | (at_builtin; refine wpList_append_own _ rfl _ _ 22 rfl w.heap.size 3 i0 _ 1 8 t27 hi hz0 hz1 hz2 rfl (by decide) _ m (base.map (Value.int .i64)) rfl (HO2.out.alloc _) ⟨_, 0, none⟩ 1 1 [.int .i64 pv] rfl ?p1 ?p2 ?p3 ?p4 ?p5 ?p6 ?_))
  case p1 => rfl
  case p2 =>
    intro i u hj
    rw [Addr.add_lit]
    have hj' : i < 1 := by have := (List.getElem?_eq_some_iff.1 hj).1; simpa using this
    rcases (show i = 0 by omega) with rfl <;> (simp at hj; subst hj; go_simp)
  case p3 => intro u hu; simp at hu; subst hu; rfl
  case p4 => unfold maxLen; omega
  case p5 => omega
  case p6 => first | omega | (simp; done) | (simp; omega)
  intro v9 w9 hown hgrow hat
  obtain ⟨R9, c9, hR9, hc91, hc92⟩ := own_slice hown
  subst hR9
  unfold maxLen at hc92
  have HO9 := Lib.hid hown
  have HB9 := Lib.hid (show Below w.heap.size w w9 from ((HB2.out).alloc hz2w _).grown hgrow (by first | omega | (simp; done) | (simp; omega)) (fun k hk => (HO2.out.lt k hk).1))
  clear hown hgrow hat
  go_wp2
  go_ret2
  exact ⟨rfl, HB9.out⟩
set_option maxHeartbeats 8000000 in
set_option maxRecDepth 100000 in
theorem over_dup (A : Option Addr) (c : Nat) (cells : List CellD) (n a0 a1 : Int) (a : Nat) (w : World) (hr : Row w w.heap.size 6 A cells.length (cellRow cells)) (S : Option Addr) (cs m : Nat) (base : List Int) (b : Int) (hs : Row w w.heap.size 1 S (m + 1) ((base ++ [b]).map (Value.int .i64))) (hm : base.length = m) (hsc : m + 1 ≤ cs) (hm8 : m + 2 = 9) :
    Calls Tryd.prog 64 #[.slice A cells.length c, .agg #[.int .i64 a0, .int .i64 a1, .int .i64 21, .int .i64 a, .int .i64 n], .slice S (m + 1) cs] w (fun e w' => e = .returned (.tuple #[.slice none 0 0, .int .i64 18]) ∧ Below w.heap.size w w') := by
  obtain ⟨i0, hi, hz0, hz1, hz2⟩ := info_parts rcInfo
  have t27 := rcTy
  have HB0 := Lib.hid (show Below w.heap.size w (w.alloc (.cells #[.int .i64 a0, .int .i64 a1, .int .i64 21, .int .i64 a, .int .i64 n] 67)) from (Below.refl _ w).alloc (Nat.le_refl _) _)
  have TK := Lib.hid (fun u => show Calls Tryd.prog 76 #[.int .i64 21] u fun e w' => e = .returned (.int .i64 1) ∧ u = w' from rtakes_any 21 u)
  have HROW := Lib.hid (row_take hs hm)
  have HM := Lib.hid hm
  have hk1 : (m : Int) + 1 ≤ cs := by omega
  have hk2 : decide ((8 : Int) < (m : Int) + 2) = true := decide_eq_true (by omega)
  have hk3 : decide (8 < m + 2) = true := decide_eq_true (by omega)
  have hk4 : (m : Int) ≤ 8 := by omega
  obtain ⟨sb, so, hS, hsb, eb⟩ := row_top (j := 0) hs hm (by decide) rfl
  rw [Nat.add_zero] at eb
  subst hS
  clear hs hm hr
  go_enter Tryd.func64, Tryd.ntmps64
  go_wp2_with (first | (go_at_call 76; refine (TK.out _).mono ?_; rintro e _ ⟨rfl, rfl⟩) | (at_builtin; refine wpList_append_row _ rfl _ _ 22 rfl w.heap.size 3 i0 _ 1 8 t27 hi hz0 hz1 hz2 rfl (by decide) _ 0 [] rfl ?qo w.heap.size (some ⟨sb, so, none⟩) m cs (base.map (Value.int .i64)) rfl ?qr ?q1 ?q4 ?q5 ?q6 ?_))
  case qo =>
    have h := World.ownsRow_made (base := w.heap.size) (e := 3) (size := 1) (w.alloc (.cells #[.int .i64 a0, .int .i64 a1, .int .i64 21, .int .i64 a, .int .i64 n] 67)) #[] 0 (by simp) (Nat.zero_le _) rfl
    have h' : ((w.alloc (.cells #[.int .i64 a0, .int .i64 a1, .int .i64 21, .int .i64 a, .int .i64 n] 67)).alloc (.cells #[] 3)).ownsRow w.heap.size 3 1 (.slice (some ⟨w.heap.size + 1, 0, none⟩) 0 0) 0 [] := by simpa using h
    exact h'
  case qr => exact (HROW.out.alloc (Nat.le_refl _) _).alloc (by simp) _
  case q1 => intro u hu; obtain ⟨x, _, rfl⟩ := List.mem_map.1 hu; rfl
  case q4 => unfold maxLen; omega
  case q5 => omega
  case q6 => first | omega | (simp; done) | (simp; omega)
  intro v1 w1 hown hgrow hat
  have hb1 : Below w.heap.size w w1 := ((HB0.out).alloc (by simp) _).grown hgrow (by simp; omega) (by intro k hk; simp [Value.ownBlock] at hk; omega)
  have hown' : w1.ownsRow w.heap.size 3 1 v1 m (base.map (Value.int .i64)) := by simpa using hown
  have b1 : w1.cell? ⟨w.heap.size, 3, none⟩ = some (.int .i64 a) := by
    refine (World.cell?_of_block (w := (w.alloc (.cells #[.int .i64 a0, .int .i64 a1, .int .i64 21, .int .i64 a, .int .i64 n] 67)).alloc (.cells #[] 3)) (hgrow.block w.heap.size (by simp; omega) (by simp [Value.ownBlock]))).trans ?_
    go_simp
  have b2 : w1.cell? ⟨w.heap.size, 2, none⟩ = some (.int .i64 21) := by
    refine (World.cell?_of_block (w := (w.alloc (.cells #[.int .i64 a0, .int .i64 a1, .int .i64 21, .int .i64 a, .int .i64 n] 67)).alloc (.cells #[] 3)) (hgrow.block w.heap.size (by simp; omega) (by simp [Value.ownBlock]))).trans ?_
    go_simp
  have b0 : w1.cell? ⟨w.heap.size, 0, none⟩ = some (.int .i64 a0) := by
    refine (World.cell?_of_block (w := (w.alloc (.cells #[.int .i64 a0, .int .i64 a1, .int .i64 21, .int .i64 a, .int .i64 n] 67)).alloc (.cells #[] 3)) (hgrow.block w.heap.size (by simp; omega) (by simp [Value.ownBlock]))).trans ?_
    go_simp
  have b3 : w1.cell? ⟨w.heap.size, 1, none⟩ = some (.int .i64 a1) := by
    refine (World.cell?_of_block (w := (w.alloc (.cells #[.int .i64 a0, .int .i64 a1, .int .i64 21, .int .i64 a, .int .i64 n] 67)).alloc (.cells #[] 3)) (hgrow.block w.heap.size (by simp; omega) (by simp [Value.ownBlock]))).trans ?_
    go_simp
  have b4 : w1.cell? ⟨w.heap.size, 4, none⟩ = some (.int .i64 n) := by
    refine (World.cell?_of_block (w := (w.alloc (.cells #[.int .i64 a0, .int .i64 a1, .int .i64 21, .int .i64 a, .int .i64 n] 67)).alloc (.cells #[] 3)) (hgrow.block w.heap.size (by simp; omega) (by simp [Value.ownBlock]))).trans ?_
    go_simp
  have hz1w := hb1.size
  have HO1 := Lib.hid hown'
  have HB1 := Lib.hid hb1
  clear hown hown' hgrow hat hb1
  go_wp2_with (at_builtin; refine wpList_append_own _ rfl _ _ 22 rfl w.heap.size 3 i0 _ 1 8 t27 hi hz0 hz1 hz2 rfl (by decide) _ m (base.map (Value.int .i64)) rfl (HO1.out.alloc _) ⟨_, 0, none⟩ 2 2 [.int .i64 b, .int .i64 b] rfl ?p1 ?p2 ?p3 ?p4 ?p5 ?p6 ?_)
  case p1 => rfl
  case p2 =>
    intro i u hj
    rw [Addr.add_lit]
    have hj' : i < 2 := by have := (List.getElem?_eq_some_iff.1 hj).1; simpa using this
    rcases (show i = 0 ∨ i = 1 by omega) with rfl | rfl <;> (simp at hj; subst hj; go_simp)
  case p3 => intro u hu; simp at hu; rcases hu with rfl | rfl <;> rfl
  case p4 => unfold maxLen; omega
  case p5 => omega
  case p6 => first | omega | (simp; done) | (simp; omega)
  intro v9 w9 hown hgrow hat
  obtain ⟨R9, c9, hR9, hc91, hc92⟩ := own_slice hown
  subst hR9
  unfold maxLen at hc92
  have HO9 := Lib.hid hown
  have HB9 := Lib.hid (show Below w.heap.size w w9 from ((HB1.out).alloc hz1w _).grown hgrow (by first | omega | (simp; done) | (simp; omega)) (fun k hk => (HO1.out.lt k hk).1))
  clear hown hgrow hat
  go_wp2
  go_ret2
  exact ⟨rfl, HB9.out⟩
/-- does, upon an instruction that was picked, where the stack would be too high. -/
theorem rdoes_over (A : Option Addr) (c : Nat) (cells : List CellD) (n a0 a1 : Int) (a : Nat) (w : World) (hr : Row w w.heap.size 6 A cells.length (cellRow cells)) (S : Option Addr) (cs : Nat) (st out : List Int) (s : Int) (hs : s = 1 ∨ s = 3 ∨ s = 24 ∨ s = 26 ∨ s = 21) (hlt : s = 3 → a < cells.length)
    (hrs : Row w w.heap.size 1 S st.length (st.map (Value.int .i64))) (hsc : st.length ≤ cs) (hs8 : st.length ≤ 8) (hd : doesU cells s a st = some out) (ho : ¬ out.length ≤ 8) :
    Calls Tryd.prog 64 #[.slice A cells.length c, .agg #[.int .i64 a0, .int .i64 a1, .int .i64 s, .int .i64 a, .int .i64 n], .slice S st.length cs] w fun e w' => e = .returned (.tuple #[.slice none 0 0, .int .i64 18]) ∧ Below w.heap.size w w' := by
  have hs' : Row w w.heap.size 1 S (st.length + 0) ((st ++ []).map (Value.int .i64)) := by simpa using hrs
  have push : ∀ x, out = st ++ [x] → st.length + 1 = 9 := fun x h => by subst h; simp at ho; omega
  rcases hs with rfl | rfl | rfl | rfl | rfl
  · exact over_push A c cells n a0 a1 a w hr S cs st.length st hs' rfl hsc (push _ (Option.some.inj hd).symm)
  · exact over_load A c cells n a0 a1 a w hr S cs st.length st hs' rfl hsc (push _ (Option.some.inj hd).symm) (hlt rfl)
  · exact over_in A c cells n a0 a1 a w hr S cs st.length st hs' rfl hsc (push _ (Option.some.inj hd).symm)
  · exact over_now A c cells n a0 a1 a w hr S cs st.length st hs' rfl hsc (push _ (Option.some.inj hd).symm)
  · rcases nil_or_app st with rfl | ⟨r, b, rfl⟩
    · cases hd
    · have e : doesU cells 21 a (r ++ [b]) = some (r ++ [b, b]) := by simp [doesU, takesN, does1]
      rw [e] at hd
      obtain rfl := Option.some.inj hd
      have hl : (r ++ [b]).length = r.length + 1 := by simp
      rw [hl] at hrs hsc hs8 ⊢
      exact over_dup A c cells n a0 a1 a w hr S cs r.length r b hrs rfl hsc (by simp at ho; omega)
theorem bytesInfoT : (Tryd.prog.info? 44).map (fun i => (i.zero, i.size, i.bytes)) = some (some (.slice none 0 0), 1, 24) := by kernel_rfl
theorem bytessTyT : Tryd.prog.underlying 27 = some (.slice 44) := by kernel_rfl
set_option maxRecDepth 100000 in
theorem make_bytess (n : Nat) (hn : n ≤ 1000) (w : World) :
    (Instr.makeSlice 27 (.int .i64 n) (.int .i64 n)).run Tryd.prog w = .ok (.slice (some ⟨w.heap.size, 0, none⟩) n n) (w.alloc (.cells (Array.replicate n (.slice none 0 0)) 44)) := by
  obtain ⟨i0, hi, hz0, hz1, hz2⟩ := info_parts bytesInfoT
  have h := run_make (P := Tryd.prog) w 27 44 i0 _ bytessTyT hi hz0 .i64 .i64 n n (by omega) (by omega) (by rw [hz2]; omega) (by omega)
  rw [h, hz1]
  congr 3
  unfold madeCells
  apply Array.ext
  · simp
  · intro j h1 h2
    simp [Value.cells, Nat.mod_one]
/-- What fits leaves. -/
def FitsBack (w : World) (out : List Int) (e : Ending) (w' : World) : Prop :=
  Below w.heap.size w w' ∧ if out.length ≤ 8 then ∃ R c', e = .returned (.tuple #[.slice R out.length c', .bool true]) ∧ out.length ≤ c' ∧ c' ≤ 9223372036854775807 ∧ w'.ownsRow w.heap.size 3 1 (.slice R out.length c') out.length (out.map (Value.int .i64)) else e = .returned (.tuple #[.slice none 0 0, .bool false])
theorem keepOp {u1 W' : World} {B m : Nat} {v0 v1 v2 v3 v4 : Value} (hb : Below B u1 W') (h : m < B) (k0 : u1.cell? ⟨m, 0, none⟩ = some v0) (k1 : u1.cell? ⟨m, 1, none⟩ = some v1) (k2 : u1.cell? ⟨m, 2, none⟩ = some v2) (k3 : u1.cell? ⟨m, 3, none⟩ = some v3) (k4 : u1.cell? ⟨m, 4, none⟩ = some v4) :
    W'.cell? ⟨m, 0, none⟩ = some v0 ∧ W'.cell? ⟨m, 1, none⟩ = some v1 ∧ W'.cell? ⟨m, 2, none⟩ = some v2 ∧ W'.cell? ⟨m, 3, none⟩ = some v3 ∧ W'.cell? ⟨m, 4, none⟩ = some v4 := ⟨(dcell hb h 0).trans k0, (dcell hb h 1).trans k1, (dcell hb h 2).trans k2, (dcell hb h 3).trans k3, (dcell hb h 4).trans k4⟩
set_option maxHeartbeats 8000000 in
set_option maxRecDepth 100000 in
theorem rDoes_any (A : Option Addr) (c : Nat) (cells : List CellD) (hc : cells.length ≤ c) (hcm : c ≤ 9223372036854775807) (n a0 a1 : Int) (a : Nat) (w : World) (hr : Row w w.heap.size 6 A cells.length (cellRow cells)) (S : Option Addr) (cs : Nat) (st out : List Int) (s : Int) (h0 : 0 ≤ s) (h29 : s ≤ 29) (hb : bearsB 2 3 cells s a n = true)
    (hs : Row w w.heap.size 1 S st.length (st.map (Value.int .i64))) (hsc : st.length ≤ cs) (hs8 : st.length ≤ 8) (hd : doesU cells s a st = some out) (hup : s = 1 ∨ s = 3 ∨ s = 24 ∨ s = 26 ∨ s = 21 ∨ out.length ≤ 8) :
    Calls Tryd.prog 69 #[.slice A cells.length c, .agg #[.int .i64 a0, .int .i64 a1, .int .i64 s, .int .i64 a, .int .i64 n], .slice S st.length cs] w (FitsBack w out) := by
  have mk2 : ∀ W, (Instr.makeSlice 22 (.int .i64 2) (.int .i64 2)).run Tryd.prog W = .ok (.slice (some ⟨W.heap.size, 0, none⟩) 2 2) (W.alloc (.cells #[.int .i64 0, .int .i64 0] 3)) := fun W => make_lit 2 (by decide) W
  have mk3 : ∀ W, (Instr.makeSlice 27 (.int .i64 3) (.int .i64 3)).run Tryd.prog W = .ok (.slice (some ⟨W.heap.size, 0, none⟩) 3 3) (W.alloc (.cells #[.slice none 0 0, .slice none 0 0, .slice none 0 0] 44)) := fun W => make_bytess 3 (by decide) W
  have BE := Lib.hid (fun u (hu : Below w.heap.size w u) (Ca Fa : Option Addr) => rbears_ok none Ca Fa A 0 0 2 2 3 3 c cells s n a0 a1 a u ((hr.below hu).more hu.size) hc hcm hb)
  by_cases hl8 : out.length ≤ 8
  · have DO := Lib.hid (fun u (hu : Below w.heap.size w u) => rdoes_ok A c cells n a0 a1 a u ((hr.below hu).more hu.size) S cs st out s 2 3 hb h0 h29 ((hs.below hu).more hu.size) hsc hs8 (by rw [doesP_of hd, if_pos hl8]))
    clear hr hs hd hup hb
    go_enter Tryd.func69, Tryd.ntmps69
    go_wp2_with fail
    obtain ⟨wv, hwv⟩ : ∃ x : World, x = w.alloc (.cells #[.int .i64 a0, .int .i64 a1, .int .i64 s, .int .i64 a, .int .i64 n] 67) := ⟨_, rfl⟩
    have hzv : wv.heap.size = w.heap.size + 1 := by rw [hwv]; simp
    have hlm : w.heap.size < wv.heap.size := by omega
    have o0 : wv.cell? ⟨w.heap.size, 0, none⟩ = some (.int .i64 a0) := by rw [hwv]; go_simp
    have o1 : wv.cell? ⟨w.heap.size, 1, none⟩ = some (.int .i64 a1) := by rw [hwv]; go_simp
    have o2 : wv.cell? ⟨w.heap.size, 2, none⟩ = some (.int .i64 s) := by rw [hwv]; go_simp
    have o3 : wv.cell? ⟨w.heap.size, 3, none⟩ = some (.int .i64 a) := by rw [hwv]; go_simp
    have o4 : wv.cell? ⟨w.heap.size, 4, none⟩ = some (.int .i64 n) := by rw [hwv]; go_simp
    have HBV := Lib.hid (show Below w.heap.size w wv from by rw [hwv]; exact (Below.refl _ w).alloc (Nat.le_refl _) _)
    rw [← hwv]
    clear hwv
    go_region_held3 (fun w' => w'.cell? ⟨w.heap.size, 0, none⟩ = some (.int .i64 a0) ∧ w'.cell? ⟨w.heap.size, 1, none⟩ = some (.int .i64 a1) ∧ w'.cell? ⟨w.heap.size, 2, none⟩ = some (.int .i64 s) ∧ w'.cell? ⟨w.heap.size, 3, none⟩ = some (.int .i64 a) ∧ w'.cell? ⟨w.heap.size, 4, none⟩ = some (.int .i64 n)) (exact keepOp (u1 := wv) (by repeat (first | (with_reducible exact HB1.out) | (with_reducible exact Below.refl _ _) | (with_reducible refine Below.drew ?_) | (with_reducible refine below_dN _ ?_) | (with_reducible refine Below.alloc ?_ (by first | omega | (simp; done) | (simp; omega)) _))) hlm o0 o1 o2 o3 o4)
      (first | (go_at_call 63; refine (BE.out _ (HBV.out.trans (Below.mono (by repeat (first | (with_reducible exact HB1.out) | (with_reducible exact Below.refl _ _) | (with_reducible refine Below.drew ?_) | (with_reducible refine below_dN _ ?_) | (with_reducible refine Below.alloc ?_ (by first | omega | (simp; done) | (simp; omega)) _))) (Nat.le_of_lt hlm))) _ _).mono ?_; rintro e w1 ⟨rfl, hb1⟩; have HB1 := Lib.hid (show Below wv.heap.size wv w1 from Below.trans (by repeat (first | (with_reducible exact HB1.out) | (with_reducible exact Below.refl _ _) | (with_reducible refine Below.drew ?_) | (with_reducible refine below_dN _ ?_) | (with_reducible refine Below.alloc ?_ (by first | omega | (simp; done) | (simp; omega)) _))) (hb1.mono (by first | omega | (simp; done) | (simp; omega)))); have hz1 := HB1.out.size; clear hb1))
    all_goals (try have HB8 := Lib.hid (show Below w.heap.size w w1 from HBV.out.trans (HB1.out.mono (Nat.le_of_lt hlm))))
    all_goals have hp0 := (dcell HB1.out hlm 0).trans o0
    all_goals have hp1 := (dcell HB1.out hlm 1).trans o1
    all_goals have hp2 := (dcell HB1.out hlm 2).trans o2
    all_goals have hp3 := (dcell HB1.out hlm 3).trans o3
    all_goals have hp4 := (dcell HB1.out hlm 4).trans o4
    all_goals have hz8 := HB8.out.size
    all_goals go_wp2_with (go_at_call 64; refine (DO.out _ (by repeat (first | (with_reducible exact HB8.out) | (with_reducible refine Below.drew ?_) | (with_reducible refine below_dN _ ?_) | (with_reducible refine Below.alloc ?_ (by first | omega | (simp; done) | (simp; omega)) _)))).mono ?_; rintro e w2 ⟨R2, c2, rfl, h21, h22, ho2, hb2⟩; have HO2 := Lib.hid ho2; have HB2 := Lib.hid (Below.trans (by repeat (first | (with_reducible exact HB8.out) | (with_reducible refine Below.drew ?_) | (with_reducible refine below_dN _ ?_) | (with_reducible refine Below.alloc ?_ (by first | omega | (simp; done) | (simp; omega)) _))) (hb2.mono (by first | omega | (simp; done) | (simp; omega)))); clear ho2 hb2)
    all_goals go_ret2
    all_goals refine ⟨HB2.out, ?_⟩
    all_goals rw [if_pos hl8]
    all_goals exact ⟨R2, c2, rfl, h21, h22, own_mono8 HO2.out (by first | omega | (simp; done) | (simp; omega))⟩
  · have DO := Lib.hid (fun u (hu : Below w.heap.size w u) => rdoes_over A c cells n a0 a1 a u ((hr.below hu).more hu.size) S cs st out s (by rcases hup with h | h | h | h | h | h <;> first | exact absurd h hl8 | omega) (fun h3 => bearsB_lt hb (.inl h3)) ((hs.below hu).more hu.size) hsc hs8 hd hl8)
    clear hr hs hd hup hb
    go_enter Tryd.func69, Tryd.ntmps69
    go_wp2_with fail
    obtain ⟨wv, hwv⟩ : ∃ x : World, x = w.alloc (.cells #[.int .i64 a0, .int .i64 a1, .int .i64 s, .int .i64 a, .int .i64 n] 67) := ⟨_, rfl⟩
    have hzv : wv.heap.size = w.heap.size + 1 := by rw [hwv]; simp
    have hlm : w.heap.size < wv.heap.size := by omega
    have o0 : wv.cell? ⟨w.heap.size, 0, none⟩ = some (.int .i64 a0) := by rw [hwv]; go_simp
    have o1 : wv.cell? ⟨w.heap.size, 1, none⟩ = some (.int .i64 a1) := by rw [hwv]; go_simp
    have o2 : wv.cell? ⟨w.heap.size, 2, none⟩ = some (.int .i64 s) := by rw [hwv]; go_simp
    have o3 : wv.cell? ⟨w.heap.size, 3, none⟩ = some (.int .i64 a) := by rw [hwv]; go_simp
    have o4 : wv.cell? ⟨w.heap.size, 4, none⟩ = some (.int .i64 n) := by rw [hwv]; go_simp
    have HBV := Lib.hid (show Below w.heap.size w wv from by rw [hwv]; exact (Below.refl _ w).alloc (Nat.le_refl _) _)
    rw [← hwv]
    clear hwv
    go_region_held3 (fun w' => w'.cell? ⟨w.heap.size, 0, none⟩ = some (.int .i64 a0) ∧ w'.cell? ⟨w.heap.size, 1, none⟩ = some (.int .i64 a1) ∧ w'.cell? ⟨w.heap.size, 2, none⟩ = some (.int .i64 s) ∧ w'.cell? ⟨w.heap.size, 3, none⟩ = some (.int .i64 a) ∧ w'.cell? ⟨w.heap.size, 4, none⟩ = some (.int .i64 n)) (exact keepOp (u1 := wv) (by repeat (first | (with_reducible exact HB1.out) | (with_reducible exact Below.refl _ _) | (with_reducible refine Below.drew ?_) | (with_reducible refine below_dN _ ?_) | (with_reducible refine Below.alloc ?_ (by first | omega | (simp; done) | (simp; omega)) _))) hlm o0 o1 o2 o3 o4)
      (first | (go_at_call 63; refine (BE.out _ (HBV.out.trans (Below.mono (by repeat (first | (with_reducible exact HB1.out) | (with_reducible exact Below.refl _ _) | (with_reducible refine Below.drew ?_) | (with_reducible refine below_dN _ ?_) | (with_reducible refine Below.alloc ?_ (by first | omega | (simp; done) | (simp; omega)) _))) (Nat.le_of_lt hlm))) _ _).mono ?_; rintro e w1 ⟨rfl, hb1⟩; have HB1 := Lib.hid (show Below wv.heap.size wv w1 from Below.trans (by repeat (first | (with_reducible exact HB1.out) | (with_reducible exact Below.refl _ _) | (with_reducible refine Below.drew ?_) | (with_reducible refine below_dN _ ?_) | (with_reducible refine Below.alloc ?_ (by first | omega | (simp; done) | (simp; omega)) _))) (hb1.mono (by first | omega | (simp; done) | (simp; omega)))); have hz1 := HB1.out.size; clear hb1))
    all_goals (try have HB8 := Lib.hid (show Below w.heap.size w w1 from HBV.out.trans (HB1.out.mono (Nat.le_of_lt hlm))))
    all_goals have hp0 := (dcell HB1.out hlm 0).trans o0
    all_goals have hp1 := (dcell HB1.out hlm 1).trans o1
    all_goals have hp2 := (dcell HB1.out hlm 2).trans o2
    all_goals have hp3 := (dcell HB1.out hlm 3).trans o3
    all_goals have hp4 := (dcell HB1.out hlm 4).trans o4
    all_goals have hz8 := HB8.out.size
    all_goals go_wp2_with (go_at_call 64; refine (DO.out _ (by repeat (first | (with_reducible exact HB8.out) | (with_reducible refine Below.drew ?_) | (with_reducible refine below_dN _ ?_) | (with_reducible refine Below.alloc ?_ (by first | omega | (simp; done) | (simp; omega)) _)))).mono ?_; rintro e w2 ⟨rfl, hb2⟩; have HB2 := Lib.hid (Below.trans (by repeat (first | (with_reducible exact HB8.out) | (with_reducible refine Below.drew ?_) | (with_reducible refine below_dN _ ?_) | (with_reducible refine Below.alloc ?_ (by first | omega | (simp; done) | (simp; omega)) _))) (hb2.mono (by first | omega | (simp; done) | (simp; omega)))); clear hb2)
    all_goals go_ret2
    all_goals refine ⟨HB2.out, ?_⟩
    all_goals rw [if_neg hl8]
    all_goals rfl
theorem fits_any (A : Option Addr) (c : Nat) (cells : List CellD) (hc : cells.length ≤ c) (hcm : c ≤ 9223372036854775807) (n a0 a1 : Int) (a : Nat) (w : World) (hr : Row w w.heap.size 6 A cells.length (cellRow cells)) (S : Option Addr) (cs : Nat) (st out : List Int) (s : Int) (h0 : 0 ≤ s) (h29 : s ≤ 29) (hb : bearsB 2 3 cells s a n = true)
    (hs : Row w w.heap.size 1 S st.length (st.map (Value.int .i64))) (hsc : st.length ≤ cs) (hs8 : st.length ≤ 8) (hd : doesU cells s a st = some out) (hup : s = 1 ∨ s = 3 ∨ s = 24 ∨ s = 26 ∨ s = 21 ∨ out.length ≤ 8) :
    Calls Tryd.prog 49 #[.slice A cells.length c, .agg #[.int .i64 a0, .int .i64 a1, .int .i64 s, .int .i64 a, .int .i64 n], .slice S st.length cs] w (FitsBack w out) := by
  have DO := Lib.hid (fun u (hu : Below w.heap.size w u) => rDoes_any A c cells hc hcm n a0 a1 a u ((hr.below hu).more hu.size) S cs st out s h0 h29 hb ((hs.below hu).more hu.size) hsc hs8 hd hup)
  clear hr hs hd hup hb
  go_enter Tryd.func49, Tryd.ntmps49
  by_cases hl8 : out.length ≤ 8
  · have DO' := fun u hu => (DO.out u hu).mono (fun e w' (h : FitsBack u out e w') => show _ ∧ _ from by unfold FitsBack at h; rw [if_pos hl8] at h; exact h)
    have HDO := Lib.hid DO'
    clear DO'
    go_wp2_with (go_at_call 69; refine (HDO.out _ (by repeat (first | (with_reducible exact Below.refl _ _) | (with_reducible refine Below.drew ?_) | (with_reducible refine below_dN _ ?_) | (with_reducible refine Below.alloc ?_ (by first | omega | (simp; done) | (simp; omega)) _)))).mono ?_; rintro e w2 ⟨hb2, R2, c2, rfl, h21, h22, ho2⟩; have HO2 := Lib.hid ho2; have HB2 := Lib.hid hb2; clear ho2 hb2)
    go_ret2
    refine ⟨?_, ?_⟩
    rotate_left 1
    · rw [if_pos hl8]
      exact ⟨R2, c2, rfl, h21, h22, by first | exact HO2.out | exact own_mono8 HO2.out (by simp)⟩
    · first | exact HB2.out | exact Below.trans (by repeat (first | (with_reducible exact Below.refl _ _) | (with_reducible refine Below.alloc ?_ (by first | omega | (simp; done) | (simp; omega)) _))) (HB2.out.mono (by simp))
  · have DO' := fun u hu => (DO.out u hu).mono (fun e w' (h : FitsBack u out e w') => show _ ∧ _ from by unfold FitsBack at h; rw [if_neg hl8] at h; exact h)
    have HDO := Lib.hid DO'
    clear DO'
    go_wp2_with (go_at_call 69; refine (HDO.out _ (by repeat (first | (with_reducible exact Below.refl _ _) | (with_reducible refine Below.drew ?_) | (with_reducible refine below_dN _ ?_) | (with_reducible refine Below.alloc ?_ (by first | omega | (simp; done) | (simp; omega)) _)))).mono ?_; rintro e w2 ⟨hb2, rfl⟩; have HB2 := Lib.hid hb2; clear hb2)
    go_ret2
    refine ⟨?_, ?_⟩
    rotate_left 1
    · rw [if_neg hl8]; first | rfl | (simp [Act.getD]; done) | rfl
    · first | exact HB2.out | exact Below.trans (by repeat (first | (with_reducible exact Below.refl _ _) | (with_reducible refine Below.alloc ?_ (by first | omega | (simp; done) | (simp; omega)) _))) (HB2.out.mono (by simp))
end Go.Proofs.YtngobbbinacomaaDoor
