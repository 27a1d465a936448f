/- The document's chapter 12: the stack behind an instruction, where it may stand. -/
import Derived.Test.YtngobbbinacomaaDoorQ05
namespace Go.Proofs.YtngobbbinacomaaDoor
open Go.RowKit Go.Proofs.YtngobbbinacomaaDoor.c11 Go.Proofs.YtngobbbinacomaaDoor.c10
set_option linter.unusedVariables false
set_option linter.unusedSimpArgs false
attribute [local go_sem ↓] Go.wp_at_zero Go.wp_at_succ
set_option maxHeartbeats 4000000 in
set_option maxRecDepth 100000 in
theorem rputs_ok (A : Option Addr) (c : Nat) (cells : List CellD) (n a0 a1 : Int) (a : Nat) (w : World) (hr : Row w w.heap.size 6 A cells.length (cellRow cells)) (s : Int) (hs : s = 1 ∨ s = 26 ∨ s = 2 ∨ s = 24 ∨ s = 3 ∧ a < cells.length) :
    Calls Tryd.prog 83 #[.slice A cells.length c, .agg #[.int .i64 a0, .int .i64 a1, .int .i64 s, .int .i64 a, .int .i64 n]] w fun e w' => e = .returned (.int .i64 (putsP cells s a)) ∧ Below w.heap.size w w' := by
  have HB := Lib.hid (show Below w.heap.size w (w.alloc (.cells #[.int .i64 a0, .int .i64 a1, .int .i64 s, .int .i64 a, .int .i64 n] 67)) from (Below.refl _ w).alloc (Nat.le_refl _) _)
  rcases hs with rfl | rfl | rfl | rfl | ⟨rfl, hlt⟩
  · clear hr
    go_enter Tryd.func83, Tryd.ntmps83
    go_wp2
    go_ret
    exact ⟨rfl, HB.out⟩
  · clear hr
    go_enter Tryd.func83, Tryd.ntmps83
    go_wp2
    go_ret
    exact ⟨rfl, HB.out⟩
  · clear hr
    go_enter Tryd.func83, Tryd.ntmps83
    go_wp2
    go_ret
    exact ⟨rfl, HB.out⟩
  · clear hr
    go_enter Tryd.func83, Tryd.ntmps83
    go_wp2
    go_ret
    exact ⟨rfl, HB.out⟩
  · obtain ⟨x, hx⟩ : ∃ x, cells[a]? = some x := ⟨_, List.getElem?_eq_getElem hlt⟩
    obtain ⟨b, off, hA, hb, hcc⟩ := hr.2 (by omega)
    have e1 : w.cell? ⟨b, off + a * 6 + 1, none⟩ = some (.int .i64 x.kind) := by
      have h := hcc (a * 6 + 1) _ ((flat_get cellCells 6 cellCells_length cells a 1 x hx (by omega)).trans rfl)
      rw [← Nat.add_assoc] at h
      exact h
    have HP := Lib.hid (show putsP cells 3 a = x.kind by
      have h : cellD cells a = x := by
        unfold cellD
        rw [if_neg (by omega), Int.toNat_natCast, List.getD_eq_getElem?_getD, hx]
        rfl
      simp [putsP, h])
    subst hA
    have hlt' : (a : Int) < cells.length := by omega
    clear hr hcc hx
    go_enter Tryd.func83, Tryd.ntmps83
    go_wp2
    go_ret
    exact ⟨qret HP.out.symm, HB.out⟩
/-- What does leaves, where it is fine. -/
def DoesBack (w : World) (out : List Int) (e : Ending) (w' : World) : Prop :=
  ∃ R c', e = .returned (.tuple #[.slice R out.length c', .int .i64 0]) ∧ out.length ≤ c' ∧ c' ≤ 9223372036854775807 ∧ w'.ownsRow w.heap.size 3 1 (.slice R out.length c') out.length (out.map (Value.int .i64)) ∧ Below w.heap.size w w'
theorem row_take {w : World} {B : Nat} {S : Option Addr} {m k : Nat} {base tops : List Int} (h : Row w B 1 S (m + k) ((base ++ tops).map (Value.int .i64))) (hm : base.length = m) : Row w B 1 S m (base.map (Value.int .i64)) := by
  refine ⟨by simp [hm], fun h0 => ?_⟩
  obtain ⟨b, off, hS, hb, hc⟩ := h.2 (by omega)
  refine ⟨b, off, hS, hb, fun j u hu => hc j u ?_⟩
  rw [List.map_append, List.getElem?_append_left (List.getElem?_eq_some_iff.1 hu).1]
  exact hu
theorem row_top {w : World} {B : Nat} {S : Option Addr} {m k j : Nat} {base tops : List Int} {x : Int} (h : Row w B 1 S (m + k) ((base ++ tops).map (Value.int .i64))) (hm : base.length = m) (hk : 0 < k) (hx : tops[j]? = some x) : ∃ b off, S = some ⟨b, off, none⟩ ∧ b < B ∧ w.cell? ⟨b, off + m + j, none⟩ = some (.int .i64 x) := by
  obtain ⟨b, off, hS, hb, hc⟩ := h.2 (by omega)
  refine ⟨b, off, hS, hb, ?_⟩
  have := hc (m + j) (.int .i64 x) (by rw [List.map_append, List.getElem?_append_right (by simp [hm]), List.length_map, hm, Nat.add_sub_cancel_left, List.getElem?_map, hx]; rfl)
  rwa [← Nat.add_assoc] at this
/-- An instruction's box behind an append to a row made behind it. -/
theorem op_kept {w w1 : World} {a0 a1 s a n : Int} {t t' : TypeId} {row : Option Nat} (hr : some w.heap.size ≠ row) (hg : ((w.alloc (.cells #[.int .i64 a0, .int .i64 a1, .int .i64 s, .int .i64 a, .int .i64 n] t)).alloc (.cells #[] t')).grownBy w1 row) :
    w1.cell? ⟨w.heap.size, 0, none⟩ = some (.int .i64 a0) ∧ w1.cell? ⟨w.heap.size, 1, none⟩ = some (.int .i64 a1) ∧ w1.cell? ⟨w.heap.size, 2, none⟩ = some (.int .i64 s) ∧ w1.cell? ⟨w.heap.size, 3, none⟩ = some (.int .i64 a) ∧ w1.cell? ⟨w.heap.size, 4, none⟩ = some (.int .i64 n) := by
  have hb := hg.block w.heap.size (by simp; omega) hr
  exact ⟨(World.cell?_of_block hb).trans (by go_simp), (World.cell?_of_block hb).trans (by go_simp), (World.cell?_of_block hb).trans (by go_simp), (World.cell?_of_block hb).trans (by go_simp), (World.cell?_of_block hb).trans (by go_simp)⟩
set_option maxHeartbeats 8000000 in
set_option maxRecDepth 100000 in
theorem does_push (A : Option Addr) (c : Nat) (cells : List CellD) (n a0 a1 : Int) (a : Nat) (w : World) (hr : Row w w.heap.size 6 A cells.length (cellRow cells)) (S : Option Addr) (cs m : Nat) (base : List Int) (hs : Row w w.heap.size 1 S (m + 0) ((base ++ []).map (Value.int .i64))) (hm : base.length = m) (hsc : m + 0 ≤ cs) (hm8 : m + 1 ≤ 8) :
    Calls Tryd.prog 64 #[.slice A cells.length c, .agg #[.int .i64 a0, .int .i64 a1, .int .i64 1, .int .i64 a, .int .i64 n], .slice S (m + 0) cs] w (DoesBack w (base ++ [putsP cells 1 a])) := by
  obtain ⟨i0, hi, hz0, hz1, hz2⟩ := info_parts rcInfo
  have t27 := rcTy
  have HB0 := Lib.hid (show Below w.heap.size w (w.alloc (.cells #[.int .i64 a0, .int .i64 a1, .int .i64 1, .int .i64 a, .int .i64 n] 67)) from (Below.refl _ w).alloc (Nat.le_refl _) _)
  have TK := Lib.hid (fun u => show Calls Tryd.prog 76 #[.int .i64 1] u fun e w' => e = .returned (.int .i64 0) ∧ u = w' from rtakes_any 1 u)
  have HROW := Lib.hid (row_take hs hm)
  have HM := Lib.hid hm
  have hk1 : (m : Int) + 0 ≤ cs := by omega
  have hk2 : decide ((8 : Int) < (m : Int) + 1) = false := decide_eq_false (by omega)
  have hk3 : decide (8 < m + 1) = false := decide_eq_false (by omega)
  have hk4 : (m : Int) ≤ 8 := by omega
  have PU := Lib.hid (fun u (hb : Below w.heap.size w u) => rputs_ok A c cells n a0 a1 a u ((hr.below hb).more hb.size) 1 (.inl rfl))
  generalize putsP cells 1 a = pv at *
  clear hs hm
  go_enter Tryd.func64, Tryd.ntmps64
  go_wp2_with (first | (go_at_call 76; refine (TK.out _).mono ?_; rintro e _ ⟨rfl, rfl⟩) | (at_builtin; refine wpList_append_row _ rfl _ _ 22 rfl w.heap.size 3 i0 _ 1 8 t27 hi hz0 hz1 hz2 rfl (by decide) _ 0 [] rfl ?qo w.heap.size S m cs (base.map (Value.int .i64)) rfl ?qr ?q1 ?q4 ?q5 ?q6 ?_))
  case qo =>
    have h := World.ownsRow_made (base := w.heap.size) (e := 3) (size := 1) (w.alloc (.cells #[.int .i64 a0, .int .i64 a1, .int .i64 1, .int .i64 a, .int .i64 n] 67)) #[] 0 (by simp) (Nat.zero_le _) rfl
    have h' : ((w.alloc (.cells #[.int .i64 a0, .int .i64 a1, .int .i64 1, .int .i64 a, .int .i64 n] 67)).alloc (.cells #[] 3)).ownsRow w.heap.size 3 1 (.slice (some ⟨w.heap.size + 1, 0, none⟩) 0 0) 0 [] := by simpa using h
    exact h'
  case qr => exact (HROW.out.alloc (Nat.le_refl _) _).alloc (by simp) _
  case q1 => intro u hu; obtain ⟨x, _, rfl⟩ := List.mem_map.1 hu; rfl
  case q4 => unfold maxLen; omega
  case q5 => omega
  case q6 => first | omega | (simp; done) | (simp; omega)
  intro v1 w1 hown hgrow hat
  have hb1 : Below w.heap.size w w1 := ((HB0.out).alloc (by simp) _).grown hgrow (by simp; omega) (by intro k hk; simp [Value.ownBlock] at hk; omega)
  have hown' : w1.ownsRow w.heap.size 3 1 v1 m (base.map (Value.int .i64)) := by simpa using hown
  obtain ⟨b0, b3, b2, b1, b4⟩ := op_kept (by simp [Value.ownBlock]) hgrow
  have hz1w := hb1.size
  have HO1 := Lib.hid hown'
  have HB1 := Lib.hid hb1
  clear hown hown' hgrow hat hb1
  go_wp2_with (first | (go_at_call 83; refine (PU.out _ HB1.out).mono ?_; rintro e w2 ⟨rfl, hb2⟩; have HO2 := Lib.hid (row_keep HO1.out hb2); have HB2 := Lib.hid (HB1.out.trans (hb2.mono hz1w)); have hz2w := HB2.out.size; clear hb2) | (at_builtin; refine wpList_append_own _ rfl _ _ 22 rfl w.heap.size 3 i0 _ 1 8 t27 hi hz0 hz1 hz2 rfl (by decide) _ m (base.map (Value.int .i64)) rfl (HO2.out.alloc _) ⟨_, 0, none⟩ 1 1 [.int .i64 pv] rfl ?p1 ?p2 ?p3 ?p4 ?p5 ?p6 ?_))
  case p1 => rfl
  case p2 =>
    intro i u hj
    rw [Addr.add_lit]
    have hj' : i < 1 := by have := (List.getElem?_eq_some_iff.1 hj).1; simpa using this
    rcases (show i = 0 by omega) with rfl <;> (simp at hj; subst hj; go_simp)
  case p3 => intro u hu; simp at hu; subst hu; rfl
  case p4 => unfold maxLen; omega
  case p5 => omega
  case p6 => first | omega | (simp; done) | (simp; omega)
  intro v9 w9 hown hgrow hat
  obtain ⟨R9, c9, hR9, hc91, hc92⟩ := own_slice hown
  subst hR9
  unfold maxLen at hc92
  have HO9 := Lib.hid hown
  have HB9 := Lib.hid (show Below w.heap.size w w9 from ((HB2.out).alloc hz2w _).grown hgrow (by first | omega | (simp; done) | (simp; omega)) (fun k hk => (HO2.out.lt k hk).1))
  clear hown hgrow hat
  go_wp2
  go_ret2
  refine ⟨R9, c9, by simp [HM.out], by simp [HM.out]; omega, hc92, ?_, HB9.out⟩
  have h := HO9.out
  simpa [HM.out] using h
set_option maxHeartbeats 8000000 in
set_option maxRecDepth 100000 in
theorem does_now (A : Option Addr) (c : Nat) (cells : List CellD) (n a0 a1 : Int) (a : Nat) (w : World) (hr : Row w w.heap.size 6 A cells.length (cellRow cells)) (S : Option Addr) (cs m : Nat) (base : List Int) (hs : Row w w.heap.size 1 S (m + 0) ((base ++ []).map (Value.int .i64))) (hm : base.length = m) (hsc : m + 0 ≤ cs) (hm8 : m + 1 ≤ 8) :
    Calls Tryd.prog 64 #[.slice A cells.length c, .agg #[.int .i64 a0, .int .i64 a1, .int .i64 26, .int .i64 a, .int .i64 n], .slice S (m + 0) cs] w (DoesBack w (base ++ [putsP cells 26 a])) := by
  obtain ⟨i0, hi, hz0, hz1, hz2⟩ := info_parts rcInfo
  have t27 := rcTy
  have HB0 := Lib.hid (show Below w.heap.size w (w.alloc (.cells #[.int .i64 a0, .int .i64 a1, .int .i64 26, .int .i64 a, .int .i64 n] 67)) from (Below.refl _ w).alloc (Nat.le_refl _) _)
  have TK := Lib.hid (fun u => show Calls Tryd.prog 76 #[.int .i64 26] u fun e w' => e = .returned (.int .i64 0) ∧ u = w' from rtakes_any 26 u)
  have HROW := Lib.hid (row_take hs hm)
  have HM := Lib.hid hm
  have hk1 : (m : Int) + 0 ≤ cs := by omega
  have hk2 : decide ((8 : Int) < (m : Int) + 1) = false := decide_eq_false (by omega)
  have hk3 : decide (8 < m + 1) = false := decide_eq_false (by omega)
  have hk4 : (m : Int) ≤ 8 := by omega
  have PU := Lib.hid (fun u (hb : Below w.heap.size w u) => rputs_ok A c cells n a0 a1 a u ((hr.below hb).more hb.size) 26 (.inr (.inl rfl)))
  generalize putsP cells 26 a = pv at *
  clear hs hm
  go_enter Tryd.func64, Tryd.ntmps64
  go_wp2_with (first | (go_at_call 76; refine (TK.out _).mono ?_; rintro e _ ⟨rfl, rfl⟩) | (at_builtin; refine wpList_append_row _ rfl _ _ 22 rfl w.heap.size 3 i0 _ 1 8 t27 hi hz0 hz1 hz2 rfl (by decide) _ 0 [] rfl ?qo w.heap.size S m cs (base.map (Value.int .i64)) rfl ?qr ?q1 ?q4 ?q5 ?q6 ?_))
  case qo =>
    have h := World.ownsRow_made (base := w.heap.size) (e := 3) (size := 1) (w.alloc (.cells #[.int .i64 a0, .int .i64 a1, .int .i64 26, .int .i64 a, .int .i64 n] 67)) #[] 0 (by simp) (Nat.zero_le _) rfl
    have h' : ((w.alloc (.cells #[.int .i64 a0, .int .i64 a1, .int .i64 26, .int .i64 a, .int .i64 n] 67)).alloc (.cells #[] 3)).ownsRow w.heap.size 3 1 (.slice (some ⟨w.heap.size + 1, 0, none⟩) 0 0) 0 [] := by simpa using h
    exact h'
  case qr => exact (HROW.out.alloc (Nat.le_refl _) _).alloc (by simp) _
  case q1 => intro u hu; obtain ⟨x, _, rfl⟩ := List.mem_map.1 hu; rfl
  case q4 => unfold maxLen; omega
  case q5 => omega
  case q6 => first | omega | (simp; done) | (simp; omega)
  intro v1 w1 hown hgrow hat
  have hb1 : Below w.heap.size w w1 := ((HB0.out).alloc (by simp) _).grown hgrow (by simp; omega) (by intro k hk; simp [Value.ownBlock] at hk; omega)
  have hown' : w1.ownsRow w.heap.size 3 1 v1 m (base.map (Value.int .i64)) := by simpa using hown
  obtain ⟨b0, b3, b2, b1, b4⟩ := op_kept (by simp [Value.ownBlock]) hgrow
  have hz1w := hb1.size
  have HO1 := Lib.hid hown'
  have HB1 := Lib.hid hb1
  clear hown hown' hgrow hat hb1
  go_wp2_with (first | (go_at_call 83; refine (PU.out _ HB1.out).mono ?_; rintro e w2 ⟨rfl, hb2⟩; have HO2 := Lib.hid (row_keep HO1.out hb2); have HB2 := Lib.hid (HB1.out.trans (hb2.mono hz1w)); have hz2w := HB2.out.size; clear hb2) | (at_builtin; refine wpList_append_own _ rfl _ _ 22 rfl w.heap.size 3 i0 _ 1 8 t27 hi hz0 hz1 hz2 rfl (by decide) _ m (base.map (Value.int .i64)) rfl (HO2.out.alloc _) ⟨_, 0, none⟩ 1 1 [.int .i64 pv] rfl ?p1 ?p2 ?p3 ?p4 ?p5 ?p6 ?_))
  case p1 => rfl
  case p2 =>
    intro i u hj
    rw [Addr.add_lit]
    have hj' : i < 1 := by have := (List.getElem?_eq_some_iff.1 hj).1; simpa using this
    rcases (show i = 0 by omega) with rfl <;> (simp at hj; subst hj; go_simp)
  case p3 => intro u hu; simp at hu; subst hu; rfl
  case p4 => unfold maxLen; omega
  case p5 => omega
  case p6 => first | omega | (simp; done) | (simp; omega)
  intro v9 w9 hown hgrow hat
  obtain ⟨R9, c9, hR9, hc91, hc92⟩ := own_slice hown
  subst hR9
  unfold maxLen at hc92
  have HO9 := Lib.hid hown
  have HB9 := Lib.hid (show Below w.heap.size w w9 from ((HB2.out).alloc hz2w _).grown hgrow (by first | omega | (simp; done) | (simp; omega)) (fun k hk => (HO2.out.lt k hk).1))
  clear hown hgrow hat
  go_wp2
  go_ret2
  refine ⟨R9, c9, by simp [HM.out], by simp [HM.out]; omega, hc92, ?_, HB9.out⟩
  have h := HO9.out
  simpa [HM.out] using h
set_option maxHeartbeats 8000000 in
set_option maxRecDepth 100000 in
theorem does_const (A : Option Addr) (c : Nat) (cells : List CellD) (n a0 a1 : Int) (a : Nat) (w : World) (hr : Row w w.heap.size 6 A cells.length (cellRow cells)) (S : Option Addr) (cs m : Nat) (base : List Int) (hs : Row w w.heap.size 1 S (m + 0) ((base ++ []).map (Value.int .i64))) (hm : base.length = m) (hsc : m + 0 ≤ cs) (hm8 : m + 1 ≤ 8) :
    Calls Tryd.prog 64 #[.slice A cells.length c, .agg #[.int .i64 a0, .int .i64 a1, .int .i64 2, .int .i64 a, .int .i64 n], .slice S (m + 0) cs] w (DoesBack w (base ++ [putsP cells 2 a])) := by
  obtain ⟨i0, hi, hz0, hz1, hz2⟩ := info_parts rcInfo
  have t27 := rcTy
  have HB0 := Lib.hid (show Below w.heap.size w (w.alloc (.cells #[.int .i64 a0, .int .i64 a1, .int .i64 2, .int .i64 a, .int .i64 n] 67)) from (Below.refl _ w).alloc (Nat.le_refl _) _)
  have TK := Lib.hid (fun u => show Calls Tryd.prog 76 #[.int .i64 2] u fun e w' => e = .returned (.int .i64 0) ∧ u = w' from rtakes_any 2 u)
  have HROW := Lib.hid (row_take hs hm)
  have HM := Lib.hid hm
  have hk1 : (m : Int) + 0 ≤ cs := by omega
  have hk2 : decide ((8 : Int) < (m : Int) + 1) = false := decide_eq_false (by omega)
  have hk3 : decide (8 < m + 1) = false := decide_eq_false (by omega)
  have hk4 : (m : Int) ≤ 8 := by omega
  have PU := Lib.hid (fun u (hb : Below w.heap.size w u) => rputs_ok A c cells n a0 a1 a u ((hr.below hb).more hb.size) 2 (.inr (.inr (.inl rfl))))
  generalize putsP cells 2 a = pv at *
  clear hs hm
  go_enter Tryd.func64, Tryd.ntmps64
  go_wp2_with (first | (go_at_call 76; refine (TK.out _).mono ?_; rintro e _ ⟨rfl, rfl⟩) | (at_builtin; refine wpList_append_row _ rfl _ _ 22 rfl w.heap.size 3 i0 _ 1 8 t27 hi hz0 hz1 hz2 rfl (by decide) _ 0 [] rfl ?qo w.heap.size S m cs (base.map (Value.int .i64)) rfl ?qr ?q1 ?q4 ?q5 ?q6 ?_))
  case qo =>
    have h := World.ownsRow_made (base := w.heap.size) (e := 3) (size := 1) (w.alloc (.cells #[.int .i64 a0, .int .i64 a1, .int .i64 2, .int .i64 a, .int .i64 n] 67)) #[] 0 (by simp) (Nat.zero_le _) rfl
    have h' : ((w.alloc (.cells #[.int .i64 a0, .int .i64 a1, .int .i64 2, .int .i64 a, .int .i64 n] 67)).alloc (.cells #[] 3)).ownsRow w.heap.size 3 1 (.slice (some ⟨w.heap.size + 1, 0, none⟩) 0 0) 0 [] := by simpa using h
    exact h'
  case qr => exact (HROW.out.alloc (Nat.le_refl _) _).alloc (by simp) _
  case q1 => intro u hu; obtain ⟨x, _, rfl⟩ := List.mem_map.1 hu; rfl
  case q4 => unfold maxLen; omega
  case q5 => omega
  case q6 => first | omega | (simp; done) | (simp; omega)
  intro v1 w1 hown hgrow hat
  have hb1 : Below w.heap.size w w1 := ((HB0.out).alloc (by simp) _).grown hgrow (by simp; omega) (by intro k hk; simp [Value.ownBlock] at hk; omega)
  have hown' : w1.ownsRow w.heap.size 3 1 v1 m (base.map (Value.int .i64)) := by simpa using hown
  obtain ⟨b0, b3, b2, b1, b4⟩ := op_kept (by simp [Value.ownBlock]) hgrow
  have hz1w := hb1.size
  have HO1 := Lib.hid hown'
  have HB1 := Lib.hid hb1
  clear hown hown' hgrow hat hb1
  go_wp2_with (first | (go_at_call 83; refine (PU.out _ HB1.out).mono ?_; rintro e w2 ⟨rfl, hb2⟩; have HO2 := Lib.hid (row_keep HO1.out hb2); have HB2 := Lib.hid (HB1.out.trans (hb2.mono hz1w)); have hz2w := HB2.out.size; clear hb2) | (at_builtin; refine wpList_append_own _ rfl _ _ 22 rfl w.heap.size 3 i0 _ 1 8 t27 hi hz0 hz1 hz2 rfl (by decide) _ m (base.map (Value.int .i64)) rfl (HO2.out.alloc _) ⟨_, 0, none⟩ 1 1 [.int .i64 pv] rfl ?p1 ?p2 ?p3 ?p4 ?p5 ?p6 ?_))
  case p1 => rfl
  case p2 =>
    intro i u hj
    rw [Addr.add_lit]
    have hj' : i < 1 := by have := (List.getElem?_eq_some_iff.1 hj).1; simpa using this
    rcases (show i = 0 by omega) with rfl <;> (simp at hj; subst hj; go_simp)
  case p3 => intro u hu; simp at hu; subst hu; rfl
  case p4 => unfold maxLen; omega
  case p5 => omega
  case p6 => first | omega | (simp; done) | (simp; omega)
  intro v9 w9 hown hgrow hat
  obtain ⟨R9, c9, hR9, hc91, hc92⟩ := own_slice hown
  subst hR9
  unfold maxLen at hc92
  have HO9 := Lib.hid hown
  have HB9 := Lib.hid (show Below w.heap.size w w9 from ((HB2.out).alloc hz2w _).grown hgrow (by first | omega | (simp; done) | (simp; omega)) (fun k hk => (HO2.out.lt k hk).1))
  clear hown hgrow hat
  go_wp2
  go_ret2
  refine ⟨R9, c9, by simp [HM.out], by simp [HM.out]; omega, hc92, ?_, HB9.out⟩
  have h := HO9.out
  simpa [HM.out] using h
set_option maxHeartbeats 8000000 in
set_option maxRecDepth 100000 in
theorem does_in (A : Option Addr) (c : Nat) (cells : List CellD) (n a0 a1 : Int) (a : Nat) (w : World) (hr : Row w w.heap.size 6 A cells.length (cellRow cells)) (S : Option Addr) (cs m : Nat) (base : List Int) (hs : Row w w.heap.size 1 S (m + 0) ((base ++ []).map (Value.int .i64))) (hm : base.length = m) (hsc : m + 0 ≤ cs) (hm8 : m + 1 ≤ 8) :
    Calls Tryd.prog 64 #[.slice A cells.length c, .agg #[.int .i64 a0, .int .i64 a1, .int .i64 24, .int .i64 a, .int .i64 n], .slice S (m + 0) cs] w (DoesBack w (base ++ [putsP cells 24 a])) := by
  obtain ⟨i0, hi, hz0, hz1, hz2⟩ := info_parts rcInfo
  have t27 := rcTy
  have HB0 := Lib.hid (show Below w.heap.size w (w.alloc (.cells #[.int .i64 a0, .int .i64 a1, .int .i64 24, .int .i64 a, .int .i64 n] 67)) from (Below.refl _ w).alloc (Nat.le_refl _) _)
  have TK := Lib.hid (fun u => show Calls Tryd.prog 76 #[.int .i64 24] u fun e w' => e = .returned (.int .i64 0) ∧ u = w' from rtakes_any 24 u)
  have HROW := Lib.hid (row_take hs hm)
  have HM := Lib.hid hm
  have hk1 : (m : Int) + 0 ≤ cs := by omega
  have hk2 : decide ((8 : Int) < (m : Int) + 1) = false := decide_eq_false (by omega)
  have hk3 : decide (8 < m + 1) = false := decide_eq_false (by omega)
  have hk4 : (m : Int) ≤ 8 := by omega
  have PU := Lib.hid (fun u (hb : Below w.heap.size w u) => rputs_ok A c cells n a0 a1 a u ((hr.below hb).more hb.size) 24 (.inr (.inr (.inr (.inl rfl)))))
  generalize putsP cells 24 a = pv at *
  clear hs hm
  go_enter Tryd.func64, Tryd.ntmps64
  go_wp2_with (first | (go_at_call 76; refine (TK.out _).mono ?_; rintro e _ ⟨rfl, rfl⟩) | (at_builtin; refine wpList_append_row _ rfl _ _ 22 rfl w.heap.size 3 i0 _ 1 8 t27 hi hz0 hz1 hz2 rfl (by decide) _ 0 [] rfl ?qo w.heap.size S m cs (base.map (Value.int .i64)) rfl ?qr ?q1 ?q4 ?q5 ?q6 ?_))
  case qo =>
    have h := World.ownsRow_made (base := w.heap.size) (e := 3) (size := 1) (w.alloc (.cells #[.int .i64 a0, .int .i64 a1, .int .i64 24, .int .i64 a, .int .i64 n] 67)) #[] 0 (by simp) (Nat.zero_le _) rfl
    have h' : ((w.alloc (.cells #[.int .i64 a0, .int .i64 a1, .int .i64 24, .int .i64 a, .int .i64 n] 67)).alloc (.cells #[] 3)).ownsRow w.heap.size 3 1 (.slice (some ⟨w.heap.size + 1, 0, none⟩) 0 0) 0 [] := by simpa using h
    exact h'
  case qr => exact (HROW.out.alloc (Nat.le_refl _) _).alloc (by simp) _
  case q1 => intro u hu; obtain ⟨x, _, rfl⟩ := List.mem_map.1 hu; rfl
  case q4 => unfold maxLen; omega
  case q5 => omega
  case q6 => first | omega | (simp; done) | (simp; omega)
  intro v1 w1 hown hgrow hat
  have hb1 : Below w.heap.size w w1 := ((HB0.out).alloc (by simp) _).grown hgrow (by simp; omega) (by intro k hk; simp [Value.ownBlock] at hk; omega)
  have hown' : w1.ownsRow w.heap.size 3 1 v1 m (base.map (Value.int .i64)) := by simpa using hown
  obtain ⟨b0, b3, b2, b1, b4⟩ := op_kept (by simp [Value.ownBlock]) hgrow
  have hz1w := hb1.size
  have HO1 := Lib.hid hown'
  have HB1 := Lib.hid hb1
  clear hown hown' hgrow hat hb1
  go_wp2_with (first | (go_at_call 83; refine (PU.out _ HB1.out).mono ?_; rintro e w2 ⟨rfl, hb2⟩; have HO2 := Lib.hid (row_keep HO1.out hb2); have HB2 := Lib.hid (HB1.out.trans (hb2.mono hz1w)); have hz2w := HB2.out.size; clear hb2) | (at_builtin; refine wpList_append_own _ rfl _ _ 22 rfl w.heap.size 3 i0 _ 1 8 t27 hi hz0 hz1 hz2 rfl (by decide) _ m (base.map (Value.int .i64)) rfl (HO2.out.alloc _) ⟨_, 0, none⟩ 1 1 [.int .i64 pv] rfl ?p1 ?p2 ?p3 ?p4 ?p5 ?p6 ?_))
  case p1 => rfl
  case p2 =>
    intro i u hj
    rw [Addr.add_lit]
    have hj' : i < 1 := by have := (List.getElem?_eq_some_iff.1 hj).1; simpa using this
    rcases (show i = 0 by omega) with rfl <;> (simp at hj; subst hj; go_simp)
  case p3 => intro u hu; simp at hu; subst hu; rfl
  case p4 => unfold maxLen; omega
  case p5 => omega
  case p6 => first | omega | (simp; done) | (simp; omega)
  intro v9 w9 hown hgrow hat
  obtain ⟨R9, c9, hR9, hc91, hc92⟩ := own_slice hown
  subst hR9
  unfold maxLen at hc92
  have HO9 := Lib.hid hown
  have HB9 := Lib.hid (show Below w.heap.size w w9 from ((HB2.out).alloc hz2w _).grown hgrow (by first | omega | (simp; done) | (simp; omega)) (fun k hk => (HO2.out.lt k hk).1))
  clear hown hgrow hat
  go_wp2
  go_ret2
  refine ⟨R9, c9, by simp [HM.out], by simp [HM.out]; omega, hc92, ?_, HB9.out⟩
  have h := HO9.out
  simpa [HM.out] using h
set_option maxHeartbeats 8000000 in
set_option maxRecDepth 100000 in
theorem does_load (A : Option Addr) (c : Nat) (cells : List CellD) (n a0 a1 : Int) (a : Nat) (w : World) (hr : Row w w.heap.size 6 A cells.length (cellRow cells)) (S : Option Addr) (cs m : Nat) (base : List Int) (hs : Row w w.heap.size 1 S (m + 0) ((base ++ []).map (Value.int .i64))) (hm : base.length = m) (hsc : m + 0 ≤ cs) (hm8 : m + 1 ≤ 8) (hlt : a < cells.length) :
    Calls Tryd.prog 64 #[.slice A cells.length c, .agg #[.int .i64 a0, .int .i64 a1, .int .i64 3, .int .i64 a, .int .i64 n], .slice S (m + 0) cs] w (DoesBack w (base ++ [putsP cells 3 a])) := by
  obtain ⟨i0, hi, hz0, hz1, hz2⟩ := info_parts rcInfo
  have t27 := rcTy
  have HB0 := Lib.hid (show Below w.heap.size w (w.alloc (.cells #[.int .i64 a0, .int .i64 a1, .int .i64 3, .int .i64 a, .int .i64 n] 67)) from (Below.refl _ w).alloc (Nat.le_refl _) _)
  have TK := Lib.hid (fun u => show Calls Tryd.prog 76 #[.int .i64 3] u fun e w' => e = .returned (.int .i64 0) ∧ u = w' from rtakes_any 3 u)
  have HROW := Lib.hid (row_take hs hm)
  have HM := Lib.hid hm
  have hk1 : (m : Int) + 0 ≤ cs := by omega
  have hk2 : decide ((8 : Int) < (m : Int) + 1) = false := decide_eq_false (by omega)
  have hk3 : decide (8 < m + 1) = false := decide_eq_false (by omega)
  have hk4 : (m : Int) ≤ 8 := by omega
  have PU := Lib.hid (fun u (hb : Below w.heap.size w u) => rputs_ok A c cells n a0 a1 a u ((hr.below hb).more hb.size) 3 (.inr (.inr (.inr (.inr ⟨rfl, hlt⟩)))))
  generalize putsP cells 3 a = pv at *
  clear hs hm
  go_enter Tryd.func64, Tryd.ntmps64
  go_wp2_with (first | (go_at_call 76; refine (TK.out _).mono ?_; rintro e _ ⟨rfl, rfl⟩) | (at_builtin; refine wpList_append_row _ rfl _ _ 22 rfl w.heap.size 3 i0 _ 1 8 t27 hi hz0 hz1 hz2 rfl (by decide) _ 0 [] rfl ?qo w.heap.size S m cs (base.map (Value.int .i64)) rfl ?qr ?q1 ?q4 ?q5 ?q6 ?_))
  case qo =>
    have h := World.ownsRow_made (base := w.heap.size) (e := 3) (size := 1) (w.alloc (.cells #[.int .i64 a0, .int .i64 a1, .int .i64 3, .int .i64 a, .int .i64 n] 67)) #[] 0 (by simp) (Nat.zero_le _) rfl
    have h' : ((w.alloc (.cells #[.int .i64 a0, .int .i64 a1, .int .i64 3, .int .i64 a, .int .i64 n] 67)).alloc (.cells #[] 3)).ownsRow w.heap.size 3 1 (.slice (some ⟨w.heap.size + 1, 0, none⟩) 0 0) 0 [] := by simpa using h
    exact h'
  case qr => exact (HROW.out.alloc (Nat.le_refl _) _).alloc (by simp) _
  case q1 => intro u hu; obtain ⟨x, _, rfl⟩ := List.mem_map.1 hu; rfl
  case q4 => unfold maxLen; omega
  case q5 => omega
  case q6 => first | omega | (simp; done) | (simp; omega)
  intro v1 w1 hown hgrow hat
  have hb1 : Below w.heap.size w w1 := ((HB0.out).alloc (by simp) _).grown hgrow (by simp; omega) (by intro k hk; simp [Value.ownBlock] at hk; omega)
  have hown' : w1.ownsRow w.heap.size 3 1 v1 m (base.map (Value.int .i64)) := by simpa using hown
  obtain ⟨b0, b3, b2, b1, b4⟩ := op_kept (by simp [Value.ownBlock]) hgrow
  have hz1w := hb1.size
  have HO1 := Lib.hid hown'
  have HB1 := Lib.hid hb1
  clear hown hown' hgrow hat hb1
  go_wp2_with (first | (go_at_call 83; refine (PU.out _ HB1.out).mono ?_; rintro e w2 ⟨rfl, hb2⟩; have HO2 := Lib.hid (row_keep HO1.out hb2); have HB2 := Lib.hid (HB1.out.trans (hb2.mono hz1w)); have hz2w := HB2.out.size; clear hb2) | (at_builtin; refine wpList_append_own _ rfl _ _ 22 rfl w.heap.size 3 i0 _ 1 8 t27 hi hz0 hz1 hz2 rfl (by decide) _ m (base.map (Value.int .i64)) rfl (HO2.out.alloc _) ⟨_, 0, none⟩ 1 1 [.int .i64 pv] rfl ?p1 ?p2 ?p3 ?p4 ?p5 ?p6 ?_))
  case p1 => rfl
  case p2 =>
    intro i u hj
    rw [Addr.add_lit]
    have hj' : i < 1 := by have := (List.getElem?_eq_some_iff.1 hj).1; simpa using this
    rcases (show i = 0 by omega) with rfl <;> (simp at hj; subst hj; go_simp)
  case p3 => intro u hu; simp at hu; subst hu; rfl
  case p4 => unfold maxLen; omega
  case p5 => omega
  case p6 => first | omega | (simp; done) | (simp; omega)
  intro v9 w9 hown hgrow hat
  obtain ⟨R9, c9, hR9, hc91, hc92⟩ := own_slice hown
  subst hR9
  unfold maxLen at hc92
  have HO9 := Lib.hid hown
  have HB9 := Lib.hid (show Below w.heap.size w w9 from ((HB2.out).alloc hz2w _).grown hgrow (by first | omega | (simp; done) | (simp; omega)) (fun k hk => (HO2.out.lt k hk).1))
  clear hown hgrow hat
  go_wp2
  go_ret2
  refine ⟨R9, c9, by simp [HM.out], by simp [HM.out]; omega, hc92, ?_, HB9.out⟩
  have h := HO9.out
  simpa [HM.out] using h
set_option maxHeartbeats 8000000 in
set_option maxRecDepth 100000 in
theorem does_end (A : Option Addr) (c : Nat) (cells : List CellD) (n a0 a1 : Int) (a : Nat) (w : World) (hr : Row w w.heap.size 6 A cells.length (cellRow cells)) (S : Option Addr) (cs m : Nat) (base : List Int) (hs : Row w w.heap.size 1 S (m + 0) ((base ++ []).map (Value.int .i64))) (hm : base.length = m) (hsc : m + 0 ≤ cs) (hm8 : m + 0 ≤ 8) :
    Calls Tryd.prog 64 #[.slice A cells.length c, .agg #[.int .i64 a0, .int .i64 a1, .int .i64 0, .int .i64 a, .int .i64 n], .slice S (m + 0) cs] w (DoesBack w (base)) := by
  obtain ⟨i0, hi, hz0, hz1, hz2⟩ := info_parts rcInfo
  have t27 := rcTy
  have HB0 := Lib.hid (show Below w.heap.size w (w.alloc (.cells #[.int .i64 a0, .int .i64 a1, .int .i64 0, .int .i64 a, .int .i64 n] 67)) from (Below.refl _ w).alloc (Nat.le_refl _) _)
  have TK := Lib.hid (fun u => show Calls Tryd.prog 76 #[.int .i64 0] u fun e w' => e = .returned (.int .i64 0) ∧ u = w' from rtakes_any 0 u)
  have HROW := Lib.hid (row_take hs hm)
  have HM := Lib.hid hm
  have hk1 : (m : Int) + 0 ≤ cs := by omega
  have hk2 : decide ((8 : Int) < (m : Int) + 0) = false := decide_eq_false (by omega)
  have hk3 : decide (8 < m + 0) = false := decide_eq_false (by omega)
  have hk4 : (m : Int) ≤ 8 := by omega
  have hk5 : decide ((8 : Int) < (m : Int)) = false := decide_eq_false (by omega)
  have hk6 : decide (8 < m) = false := decide_eq_false (by omega)
  clear hs hm hr
  go_enter Tryd.func64, Tryd.ntmps64
  go_wp2_with (first | (go_at_call 76; refine (TK.out _).mono ?_; rintro e _ ⟨rfl, rfl⟩) | (at_builtin; refine wpList_append_row _ rfl _ _ 22 rfl w.heap.size 3 i0 _ 1 8 t27 hi hz0 hz1 hz2 rfl (by decide) _ 0 [] rfl ?qo w.heap.size S m cs (base.map (Value.int .i64)) rfl ?qr ?q1 ?q4 ?q5 ?q6 ?_))
  case qo =>
    have h := World.ownsRow_made (base := w.heap.size) (e := 3) (size := 1) (w.alloc (.cells #[.int .i64 a0, .int .i64 a1, .int .i64 0, .int .i64 a, .int .i64 n] 67)) #[] 0 (by simp) (Nat.zero_le _) rfl
    have h' : ((w.alloc (.cells #[.int .i64 a0, .int .i64 a1, .int .i64 0, .int .i64 a, .int .i64 n] 67)).alloc (.cells #[] 3)).ownsRow w.heap.size 3 1 (.slice (some ⟨w.heap.size + 1, 0, none⟩) 0 0) 0 [] := by simpa using h
    exact h'
  case qr => exact (HROW.out.alloc (Nat.le_refl _) _).alloc (by simp) _
  case q1 => intro u hu; obtain ⟨x, _, rfl⟩ := List.mem_map.1 hu; rfl
  case q4 => unfold maxLen; omega
  case q5 => omega
  case q6 => first | omega | (simp; done) | (simp; omega)
  intro v1 w1 hown hgrow hat
  have hb1 : Below w.heap.size w w1 := ((HB0.out).alloc (by simp) _).grown hgrow (by simp; omega) (by intro k hk; simp [Value.ownBlock] at hk; omega)
  have hown' : w1.ownsRow w.heap.size 3 1 v1 m (base.map (Value.int .i64)) := by simpa using hown
  obtain ⟨b0, b3, b2, b1, b4⟩ := op_kept (by simp [Value.ownBlock]) hgrow
  have hz1w := hb1.size
  have HO1 := Lib.hid hown'
  have HB1 := Lib.hid hb1
  clear hown hown' hgrow hat hb1
  obtain ⟨R1, c1, hR1, hc11, hc12⟩ := own_slice HO1.out
  subst hR1
  unfold maxLen at hc12
  go_wp2
  go_ret2
  refine ⟨R1, c1, by simp [HM.out], by simp [HM.out]; omega, hc12, ?_, ?_⟩
  · have h := HO1.out
    simpa [HM.out] using h
  · repeat (first | exact HB1.out | refine Below.drew ?_ | refine below_dN _ ?_)
set_option maxHeartbeats 8000000 in
set_option maxRecDepth 100000 in
theorem does_jmp (A : Option Addr) (c : Nat) (cells : List CellD) (n a0 a1 : Int) (a : Nat) (w : World) (hr : Row w w.heap.size 6 A cells.length (cellRow cells)) (S : Option Addr) (cs m : Nat) (base : List Int) (hs : Row w w.heap.size 1 S (m + 0) ((base ++ []).map (Value.int .i64))) (hm : base.length = m) (hsc : m + 0 ≤ cs) (hm8 : m + 0 ≤ 8) :
    Calls Tryd.prog 64 #[.slice A cells.length c, .agg #[.int .i64 a0, .int .i64 a1, .int .i64 18, .int .i64 a, .int .i64 n], .slice S (m + 0) cs] w (DoesBack w (base)) := by
  obtain ⟨i0, hi, hz0, hz1, hz2⟩ := info_parts rcInfo
  have t27 := rcTy
  have HB0 := Lib.hid (show Below w.heap.size w (w.alloc (.cells #[.int .i64 a0, .int .i64 a1, .int .i64 18, .int .i64 a, .int .i64 n] 67)) from (Below.refl _ w).alloc (Nat.le_refl _) _)
  have TK := Lib.hid (fun u => show Calls Tryd.prog 76 #[.int .i64 18] u fun e w' => e = .returned (.int .i64 0) ∧ u = w' from rtakes_any 18 u)
  have HROW := Lib.hid (row_take hs hm)
  have HM := Lib.hid hm
  have hk1 : (m : Int) + 0 ≤ cs := by omega
  have hk2 : decide ((8 : Int) < (m : Int) + 0) = false := decide_eq_false (by omega)
  have hk3 : decide (8 < m + 0) = false := decide_eq_false (by omega)
  have hk4 : (m : Int) ≤ 8 := by omega
  have hk5 : decide ((8 : Int) < (m : Int)) = false := decide_eq_false (by omega)
  have hk6 : decide (8 < m) = false := decide_eq_false (by omega)
  clear hs hm hr
  go_enter Tryd.func64, Tryd.ntmps64
  go_wp2_with (first | (go_at_call 76; refine (TK.out _).mono ?_; rintro e _ ⟨rfl, rfl⟩) | (at_builtin; refine wpList_append_row _ rfl _ _ 22 rfl w.heap.size 3 i0 _ 1 8 t27 hi hz0 hz1 hz2 rfl (by decide) _ 0 [] rfl ?qo w.heap.size S m cs (base.map (Value.int .i64)) rfl ?qr ?q1 ?q4 ?q5 ?q6 ?_))
  case qo =>
    have h := World.ownsRow_made (base := w.heap.size) (e := 3) (size := 1) (w.alloc (.cells #[.int .i64 a0, .int .i64 a1, .int .i64 18, .int .i64 a, .int .i64 n] 67)) #[] 0 (by simp) (Nat.zero_le _) rfl
    have h' : ((w.alloc (.cells #[.int .i64 a0, .int .i64 a1, .int .i64 18, .int .i64 a, .int .i64 n] 67)).alloc (.cells #[] 3)).ownsRow w.heap.size 3 1 (.slice (some ⟨w.heap.size + 1, 0, none⟩) 0 0) 0 [] := by simpa using h
    exact h'
  case qr => exact (HROW.out.alloc (Nat.le_refl _) _).alloc (by simp) _
  case q1 => intro u hu; obtain ⟨x, _, rfl⟩ := List.mem_map.1 hu; rfl
  case q4 => unfold maxLen; omega
  case q5 => omega
  case q6 => first | omega | (simp; done) | (simp; omega)
  intro v1 w1 hown hgrow hat
  have hb1 : Below w.heap.size w w1 := ((HB0.out).alloc (by simp) _).grown hgrow (by simp; omega) (by intro k hk; simp [Value.ownBlock] at hk; omega)
  have hown' : w1.ownsRow w.heap.size 3 1 v1 m (base.map (Value.int .i64)) := by simpa using hown
  obtain ⟨b0, b3, b2, b1, b4⟩ := op_kept (by simp [Value.ownBlock]) hgrow
  have hz1w := hb1.size
  have HO1 := Lib.hid hown'
  have HB1 := Lib.hid hb1
  clear hown hown' hgrow hat hb1
  obtain ⟨R1, c1, hR1, hc11, hc12⟩ := own_slice HO1.out
  subst hR1
  unfold maxLen at hc12
  go_wp2
  go_ret2
  refine ⟨R1, c1, by simp [HM.out], by simp [HM.out]; omega, hc12, ?_, ?_⟩
  · have h := HO1.out
    simpa [HM.out] using h
  · repeat (first | exact HB1.out | refine Below.drew ?_ | refine below_dN _ ?_)
set_option maxHeartbeats 8000000 in
set_option maxRecDepth 100000 in
theorem does_call (A : Option Addr) (c : Nat) (cells : List CellD) (n a0 a1 : Int) (a : Nat) (w : World) (hr : Row w w.heap.size 6 A cells.length (cellRow cells)) (S : Option Addr) (cs m : Nat) (base : List Int) (hs : Row w w.heap.size 1 S (m + 0) ((base ++ []).map (Value.int .i64))) (hm : base.length = m) (hsc : m + 0 ≤ cs) (hm8 : m + 0 ≤ 8) :
    Calls Tryd.prog 64 #[.slice A cells.length c, .agg #[.int .i64 a0, .int .i64 a1, .int .i64 20, .int .i64 a, .int .i64 n], .slice S (m + 0) cs] w (DoesBack w (base)) := by
  obtain ⟨i0, hi, hz0, hz1, hz2⟩ := info_parts rcInfo
  have t27 := rcTy
  have HB0 := Lib.hid (show Below w.heap.size w (w.alloc (.cells #[.int .i64 a0, .int .i64 a1, .int .i64 20, .int .i64 a, .int .i64 n] 67)) from (Below.refl _ w).alloc (Nat.le_refl _) _)
  have TK := Lib.hid (fun u => show Calls Tryd.prog 76 #[.int .i64 20] u fun e w' => e = .returned (.int .i64 0) ∧ u = w' from rtakes_any 20 u)
  have HROW := Lib.hid (row_take hs hm)
  have HM := Lib.hid hm
  have hk1 : (m : Int) + 0 ≤ cs := by omega
  have hk2 : decide ((8 : Int) < (m : Int) + 0) = false := decide_eq_false (by omega)
  have hk3 : decide (8 < m + 0) = false := decide_eq_false (by omega)
  have hk4 : (m : Int) ≤ 8 := by omega
  have hk5 : decide ((8 : Int) < (m : Int)) = false := decide_eq_false (by omega)
  have hk6 : decide (8 < m) = false := decide_eq_false (by omega)
  clear hs hm hr
  go_enter Tryd.func64, Tryd.ntmps64
  go_wp2_with (first | (go_at_call 76; refine (TK.out _).mono ?_; rintro e _ ⟨rfl, rfl⟩) | (at_builtin; refine wpList_append_row _ rfl _ _ 22 rfl w.heap.size 3 i0 _ 1 8 t27 hi hz0 hz1 hz2 rfl (by decide) _ 0 [] rfl ?qo w.heap.size S m cs (base.map (Value.int .i64)) rfl ?qr ?q1 ?q4 ?q5 ?q6 ?_))
  case qo =>
    have h := World.ownsRow_made (base := w.heap.size) (e := 3) (size := 1) (w.alloc (.cells #[.int .i64 a0, .int .i64 a1, .int .i64 20, .int .i64 a, .int .i64 n] 67)) #[] 0 (by simp) (Nat.zero_le _) rfl
    have h' : ((w.alloc (.cells #[.int .i64 a0, .int .i64 a1, .int .i64 20, .int .i64 a, .int .i64 n] 67)).alloc (.cells #[] 3)).ownsRow w.heap.size 3 1 (.slice (some ⟨w.heap.size + 1, 0, none⟩) 0 0) 0 [] := by simpa using h
    exact h'
  case qr => exact (HROW.out.alloc (Nat.le_refl _) _).alloc (by simp) _
  case q1 => intro u hu; obtain ⟨x, _, rfl⟩ := List.mem_map.1 hu; rfl
  case q4 => unfold maxLen; omega
  case q5 => omega
  case q6 => first | omega | (simp; done) | (simp; omega)
  intro v1 w1 hown hgrow hat
  have hb1 : Below w.heap.size w w1 := ((HB0.out).alloc (by simp) _).grown hgrow (by simp; omega) (by intro k hk; simp [Value.ownBlock] at hk; omega)
  have hown' : w1.ownsRow w.heap.size 3 1 v1 m (base.map (Value.int .i64)) := by simpa using hown
  obtain ⟨b0, b3, b2, b1, b4⟩ := op_kept (by simp [Value.ownBlock]) hgrow
  have hz1w := hb1.size
  have HO1 := Lib.hid hown'
  have HB1 := Lib.hid hb1
  clear hown hown' hgrow hat hb1
  obtain ⟨R1, c1, hR1, hc11, hc12⟩ := own_slice HO1.out
  subst hR1
  unfold maxLen at hc12
  go_wp2
  go_ret2
  refine ⟨R1, c1, by simp [HM.out], by simp [HM.out]; omega, hc12, ?_, ?_⟩
  · have h := HO1.out
    simpa [HM.out] using h
  · repeat (first | exact HB1.out | refine Below.drew ?_ | refine below_dN _ ?_)
set_option maxHeartbeats 8000000 in
set_option maxRecDepth 100000 in
theorem does_block (A : Option Addr) (c : Nat) (cells : List CellD) (n a0 a1 : Int) (a : Nat) (w : World) (hr : Row w w.heap.size 6 A cells.length (cellRow cells)) (S : Option Addr) (cs m : Nat) (base : List Int) (hs : Row w w.heap.size 1 S (m + 0) ((base ++ []).map (Value.int .i64))) (hm : base.length = m) (hsc : m + 0 ≤ cs) (hm8 : m + 0 ≤ 8) :
    Calls Tryd.prog 64 #[.slice A cells.length c, .agg #[.int .i64 a0, .int .i64 a1, .int .i64 27, .int .i64 a, .int .i64 n], .slice S (m + 0) cs] w (DoesBack w (base)) := by
  obtain ⟨i0, hi, hz0, hz1, hz2⟩ := info_parts rcInfo
  have t27 := rcTy
  have HB0 := Lib.hid (show Below w.heap.size w (w.alloc (.cells #[.int .i64 a0, .int .i64 a1, .int .i64 27, .int .i64 a, .int .i64 n] 67)) from (Below.refl _ w).alloc (Nat.le_refl _) _)
  have TK := Lib.hid (fun u => show Calls Tryd.prog 76 #[.int .i64 27] u fun e w' => e = .returned (.int .i64 0) ∧ u = w' from rtakes_any 27 u)
  have HROW := Lib.hid (row_take hs hm)
  have HM := Lib.hid hm
  have hk1 : (m : Int) + 0 ≤ cs := by omega
  have hk2 : decide ((8 : Int) < (m : Int) + 0) = false := decide_eq_false (by omega)
  have hk3 : decide (8 < m + 0) = false := decide_eq_false (by omega)
  have hk4 : (m : Int) ≤ 8 := by omega
  have hk5 : decide ((8 : Int) < (m : Int)) = false := decide_eq_false (by omega)
  have hk6 : decide (8 < m) = false := decide_eq_false (by omega)
  clear hs hm hr
  go_enter Tryd.func64, Tryd.ntmps64
  go_wp2_with (first | (go_at_call 76; refine (TK.out _).mono ?_; rintro e _ ⟨rfl, rfl⟩) | (at_builtin; refine wpList_append_row _ rfl _ _ 22 rfl w.heap.size 3 i0 _ 1 8 t27 hi hz0 hz1 hz2 rfl (by decide) _ 0 [] rfl ?qo w.heap.size S m cs (base.map (Value.int .i64)) rfl ?qr ?q1 ?q4 ?q5 ?q6 ?_))
  case qo =>
    have h := World.ownsRow_made (base := w.heap.size) (e := 3) (size := 1) (w.alloc (.cells #[.int .i64 a0, .int .i64 a1, .int .i64 27, .int .i64 a, .int .i64 n] 67)) #[] 0 (by simp) (Nat.zero_le _) rfl
    have h' : ((w.alloc (.cells #[.int .i64 a0, .int .i64 a1, .int .i64 27, .int .i64 a, .int .i64 n] 67)).alloc (.cells #[] 3)).ownsRow w.heap.size 3 1 (.slice (some ⟨w.heap.size + 1, 0, none⟩) 0 0) 0 [] := by simpa using h
    exact h'
  case qr => exact (HROW.out.alloc (Nat.le_refl _) _).alloc (by simp) _
  case q1 => intro u hu; obtain ⟨x, _, rfl⟩ := List.mem_map.1 hu; rfl
  case q4 => unfold maxLen; omega
  case q5 => omega
  case q6 => first | omega | (simp; done) | (simp; omega)
  intro v1 w1 hown hgrow hat
  have hb1 : Below w.heap.size w w1 := ((HB0.out).alloc (by simp) _).grown hgrow (by simp; omega) (by intro k hk; simp [Value.ownBlock] at hk; omega)
  have hown' : w1.ownsRow w.heap.size 3 1 v1 m (base.map (Value.int .i64)) := by simpa using hown
  obtain ⟨b0, b3, b2, b1, b4⟩ := op_kept (by simp [Value.ownBlock]) hgrow
  have hz1w := hb1.size
  have HO1 := Lib.hid hown'
  have HB1 := Lib.hid hb1
  clear hown hown' hgrow hat hb1
  obtain ⟨R1, c1, hR1, hc11, hc12⟩ := own_slice HO1.out
  subst hR1
  unfold maxLen at hc12
  go_wp2
  go_ret2
  refine ⟨R1, c1, by simp [HM.out], by simp [HM.out]; omega, hc12, ?_, ?_⟩
  · have h := HO1.out
    simpa [HM.out] using h
  · repeat (first | exact HB1.out | refine Below.drew ?_ | refine below_dN _ ?_)
set_option maxHeartbeats 8000000 in
set_option maxRecDepth 100000 in
theorem does_store (A : Option Addr) (c : Nat) (cells : List CellD) (n a0 a1 : Int) (a : Nat) (w : World) (hr : Row w w.heap.size 6 A cells.length (cellRow cells)) (S : Option Addr) (cs m : Nat) (base : List Int) (b : Int) (hs : Row w w.heap.size 1 S (m + 1) ((base ++ [b]).map (Value.int .i64))) (hm : base.length = m) (hsc : m + 1 ≤ cs) (hm8 : m + 0 ≤ 8) (hlt : a < cells.length) (hb : b = (cellD cells a).kind) :
    Calls Tryd.prog 64 #[.slice A cells.length c, .agg #[.int .i64 a0, .int .i64 a1, .int .i64 4, .int .i64 a, .int .i64 n], .slice S (m + 1) cs] w (DoesBack w (base)) := by
  obtain ⟨i0, hi, hz0, hz1, hz2⟩ := info_parts rcInfo
  have t27 := rcTy
  have HB0 := Lib.hid (show Below w.heap.size w (w.alloc (.cells #[.int .i64 a0, .int .i64 a1, .int .i64 4, .int .i64 a, .int .i64 n] 67)) from (Below.refl _ w).alloc (Nat.le_refl _) _)
  have TK := Lib.hid (fun u => show Calls Tryd.prog 76 #[.int .i64 4] u fun e w' => e = .returned (.int .i64 1) ∧ u = w' from rtakes_any 4 u)
  have HROW := Lib.hid (row_take hs hm)
  have HM := Lib.hid hm
  have hk1 : (m : Int) + 1 ≤ cs := by omega
  have hk2 : decide ((8 : Int) < (m : Int) + 0) = false := decide_eq_false (by omega)
  have hk3 : decide (8 < m + 0) = false := decide_eq_false (by omega)
  have hk4 : (m : Int) ≤ 8 := by omega
  have hk5 : decide ((8 : Int) < (m : Int)) = false := decide_eq_false (by omega)
  have hk6 : decide (8 < m) = false := decide_eq_false (by omega)
  obtain ⟨sb, so, hS, hsb, eb⟩ := row_top (j := 0) hs hm (by decide) rfl
  rw [Nat.add_zero] at eb
  subst hS
  obtain ⟨x, hx⟩ : ∃ x, cells[a]? = some x := ⟨_, List.getElem?_eq_getElem hlt⟩
  obtain ⟨xb, xo, hA, hxb, hcc⟩ := hr.2 (by omega)
  have e1 : w.cell? ⟨xb, xo + a * 6 + 1, none⟩ = some (.int .i64 x.kind) := by
    have h := hcc (a * 6 + 1) _ ((flat_get cellCells 6 cellCells_length cells a 1 x hx (by omega)).trans rfl)
    rw [← Nat.add_assoc] at h
    exact h
  have hcd : cellD cells a = x := by
    unfold cellD
    rw [if_neg (by omega), Int.toNat_natCast, List.getD_eq_getElem?_getD, hx]
    rfl
  subst hA
  have hlt' : (a : Int) < cells.length := by omega
  rw [hcd] at hb
  subst hb
  clear hr hcc hx hcd
  clear hs hm
  go_enter Tryd.func64, Tryd.ntmps64
  go_wp2_with (first | (go_at_call 76; refine (TK.out _).mono ?_; rintro e _ ⟨rfl, rfl⟩) | (at_builtin; refine wpList_append_row _ rfl _ _ 22 rfl w.heap.size 3 i0 _ 1 8 t27 hi hz0 hz1 hz2 rfl (by decide) _ 0 [] rfl ?qo w.heap.size (some ⟨sb, so, none⟩) m cs (base.map (Value.int .i64)) rfl ?qr ?q1 ?q4 ?q5 ?q6 ?_))
  case qo =>
    have h := World.ownsRow_made (base := w.heap.size) (e := 3) (size := 1) (w.alloc (.cells #[.int .i64 a0, .int .i64 a1, .int .i64 4, .int .i64 a, .int .i64 n] 67)) #[] 0 (by simp) (Nat.zero_le _) rfl
    have h' : ((w.alloc (.cells #[.int .i64 a0, .int .i64 a1, .int .i64 4, .int .i64 a, .int .i64 n] 67)).alloc (.cells #[] 3)).ownsRow w.heap.size 3 1 (.slice (some ⟨w.heap.size + 1, 0, none⟩) 0 0) 0 [] := by simpa using h
    exact h'
  case qr => exact (HROW.out.alloc (Nat.le_refl _) _).alloc (by simp) _
  case q1 => intro u hu; obtain ⟨x, _, rfl⟩ := List.mem_map.1 hu; rfl
  case q4 => unfold maxLen; omega
  case q5 => omega
  case q6 => first | omega | (simp; done) | (simp; omega)
  intro v1 w1 hown hgrow hat
  have hb1 : Below w.heap.size w w1 := ((HB0.out).alloc (by simp) _).grown hgrow (by simp; omega) (by intro k hk; simp [Value.ownBlock] at hk; omega)
  have hown' : w1.ownsRow w.heap.size 3 1 v1 m (base.map (Value.int .i64)) := by simpa using hown
  obtain ⟨b0, b3, b2, b1, b4⟩ := op_kept (by simp [Value.ownBlock]) hgrow
  have hz1w := hb1.size
  have HO1 := Lib.hid hown'
  have HB1 := Lib.hid hb1
  clear hown hown' hgrow hat hb1
  have e1 := (dcell HB1.out hxb _).trans e1
  have hxb1 : xb < w1.heap.size := by omega
  obtain ⟨R1, c1, hR1, hc11, hc12⟩ := own_slice HO1.out
  subst hR1
  unfold maxLen at hc12
  go_wp2
  go_ret2
  refine ⟨R1, c1, by simp [HM.out], by simp [HM.out]; omega, hc12, ?_, ?_⟩
  · have h := HO1.out
    simpa [HM.out] using h
  · repeat (first | exact HB1.out | refine Below.drew ?_ | refine below_dN _ ?_)
set_option maxHeartbeats 8000000 in
set_option maxRecDepth 100000 in
theorem does_loadx (A : Option Addr) (c : Nat) (cells : List CellD) (n a0 a1 : Int) (a : Nat) (w : World) (hr : Row w w.heap.size 6 A cells.length (cellRow cells)) (S : Option Addr) (cs m : Nat) (base : List Int) (b : Int) (hs : Row w w.heap.size 1 S (m + 1) ((base ++ [b]).map (Value.int .i64))) (hm : base.length = m) (hsc : m + 1 ≤ cs) (hm8 : m + 1 ≤ 8) (hlt : a < cells.length) (hb : b = 5) :
    Calls Tryd.prog 64 #[.slice A cells.length c, .agg #[.int .i64 a0, .int .i64 a1, .int .i64 5, .int .i64 a, .int .i64 n], .slice S (m + 1) cs] w (DoesBack w (base ++ [(cellD cells a).kind])) := by
  obtain ⟨i0, hi, hz0, hz1, hz2⟩ := info_parts rcInfo
  have t27 := rcTy
  have HB0 := Lib.hid (show Below w.heap.size w (w.alloc (.cells #[.int .i64 a0, .int .i64 a1, .int .i64 5, .int .i64 a, .int .i64 n] 67)) from (Below.refl _ w).alloc (Nat.le_refl _) _)
  have TK := Lib.hid (fun u => show Calls Tryd.prog 76 #[.int .i64 5] u fun e w' => e = .returned (.int .i64 1) ∧ u = w' from rtakes_any 5 u)
  have HROW := Lib.hid (row_take hs hm)
  have HM := Lib.hid hm
  have hk1 : (m : Int) + 1 ≤ cs := by omega
  have hk2 : decide ((8 : Int) < (m : Int) + 1) = false := decide_eq_false (by omega)
  have hk3 : decide (8 < m + 1) = false := decide_eq_false (by omega)
  have hk4 : (m : Int) ≤ 8 := by omega
  obtain ⟨sb, so, hS, hsb, eb⟩ := row_top (j := 0) hs hm (by decide) rfl
  rw [Nat.add_zero] at eb
  subst hS
  obtain ⟨x, hx⟩ : ∃ x, cells[a]? = some x := ⟨_, List.getElem?_eq_getElem hlt⟩
  obtain ⟨xb, xo, hA, hxb, hcc⟩ := hr.2 (by omega)
  have e1 : w.cell? ⟨xb, xo + a * 6 + 1, none⟩ = some (.int .i64 x.kind) := by
    have h := hcc (a * 6 + 1) _ ((flat_get cellCells 6 cellCells_length cells a 1 x hx (by omega)).trans rfl)
    rw [← Nat.add_assoc] at h
    exact h
  have hcd : cellD cells a = x := by
    unfold cellD
    rw [if_neg (by omega), Int.toNat_natCast, List.getD_eq_getElem?_getD, hx]
    rfl
  subst hA
  have hlt' : (a : Int) < cells.length := by omega
  rw [hcd]
  subst hb
  clear hr hcc hx hcd
  clear hs hm
  go_enter Tryd.func64, Tryd.ntmps64
  go_wp2_with (first | (go_at_call 76; refine (TK.out _).mono ?_; rintro e _ ⟨rfl, rfl⟩) | (at_builtin; refine wpList_append_row _ rfl _ _ 22 rfl w.heap.size 3 i0 _ 1 8 t27 hi hz0 hz1 hz2 rfl (by decide) _ 0 [] rfl ?qo w.heap.size (some ⟨sb, so, none⟩) m cs (base.map (Value.int .i64)) rfl ?qr ?q1 ?q4 ?q5 ?q6 ?_))
  case qo =>
    have h := World.ownsRow_made (base := w.heap.size) (e := 3) (size := 1) (w.alloc (.cells #[.int .i64 a0, .int .i64 a1, .int .i64 5, .int .i64 a, .int .i64 n] 67)) #[] 0 (by simp) (Nat.zero_le _) rfl
    have h' : ((w.alloc (.cells #[.int .i64 a0, .int .i64 a1, .int .i64 5, .int .i64 a, .int .i64 n] 67)).alloc (.cells #[] 3)).ownsRow w.heap.size 3 1 (.slice (some ⟨w.heap.size + 1, 0, none⟩) 0 0) 0 [] := by simpa using h
    exact h'
  case qr => exact (HROW.out.alloc (Nat.le_refl _) _).alloc (by simp) _
  case q1 => intro u hu; obtain ⟨x, _, rfl⟩ := List.mem_map.1 hu; rfl
  case q4 => unfold maxLen; omega
  case q5 => omega
  case q6 => first | omega | (simp; done) | (simp; omega)
  intro v1 w1 hown hgrow hat
  have hb1 : Below w.heap.size w w1 := ((HB0.out).alloc (by simp) _).grown hgrow (by simp; omega) (by intro k hk; simp [Value.ownBlock] at hk; omega)
  have hown' : w1.ownsRow w.heap.size 3 1 v1 m (base.map (Value.int .i64)) := by simpa using hown
  obtain ⟨b0, b3, b2, b1, b4⟩ := op_kept (by simp [Value.ownBlock]) hgrow
  have hz1w := hb1.size
  have HO1 := Lib.hid hown'
  have HB1 := Lib.hid hb1
  clear hown hown' hgrow hat hb1
  have e1 := (dcell HB1.out hxb _).trans e1
  have hxb1 : xb < w1.heap.size := by omega
  go_wp2_with (at_builtin; refine wpList_append_own _ rfl _ _ 22 rfl w.heap.size 3 i0 _ 1 8 t27 hi hz0 hz1 hz2 rfl (by decide) _ m (base.map (Value.int .i64)) rfl (HO1.out.alloc _) ⟨_, 0, none⟩ 1 1 [.int .i64 x.kind] rfl ?p1 ?p2 ?p3 ?p4 ?p5 ?p6 ?_)
  case p1 => rfl
  case p2 =>
    intro i u hj
    rw [Addr.add_lit]
    have hj' : i < 1 := by have := (List.getElem?_eq_some_iff.1 hj).1; simpa using this
    rcases (show i = 0 by omega) with rfl <;> (simp at hj; subst hj; go_simp)
  case p3 => intro u hu; simp at hu; subst hu; rfl
  case p4 => unfold maxLen; omega
  case p5 => omega
  case p6 => first | omega | (simp; done) | (simp; omega)
  intro v9 w9 hown hgrow hat
  obtain ⟨R9, c9, hR9, hc91, hc92⟩ := own_slice hown
  subst hR9
  unfold maxLen at hc92
  have HO9 := Lib.hid hown
  have HB9 := Lib.hid (show Below w.heap.size w w9 from ((HB1.out).alloc hz1w _).grown hgrow (by first | omega | (simp; done) | (simp; omega)) (fun k hk => (HO1.out.lt k hk).1))
  clear hown hgrow hat
  go_wp2
  go_ret2
  refine ⟨R9, c9, by simp [HM.out], by simp [HM.out]; omega, hc92, ?_, HB9.out⟩
  have h := HO9.out
  simpa [HM.out] using h
set_option maxHeartbeats 8000000 in
set_option maxRecDepth 100000 in
theorem does_storex (A : Option Addr) (c : Nat) (cells : List CellD) (n a0 a1 : Int) (a : Nat) (w : World) (hr : Row w w.heap.size 6 A cells.length (cellRow cells)) (S : Option Addr) (cs m : Nat) (base : List Int) (aa b : Int) (hs : Row w w.heap.size 1 S (m + 2) ((base ++ [aa, b]).map (Value.int .i64))) (hm : base.length = m) (hsc : m + 2 ≤ cs) (hm8 : m + 0 ≤ 8) (hlt : a < cells.length) (hb : b = (cellD cells a).kind) (ha : aa = 5) :
    Calls Tryd.prog 64 #[.slice A cells.length c, .agg #[.int .i64 a0, .int .i64 a1, .int .i64 6, .int .i64 a, .int .i64 n], .slice S (m + 2) cs] w (DoesBack w (base)) := by
  obtain ⟨i0, hi, hz0, hz1, hz2⟩ := info_parts rcInfo
  have t27 := rcTy
  have HB0 := Lib.hid (show Below w.heap.size w (w.alloc (.cells #[.int .i64 a0, .int .i64 a1, .int .i64 6, .int .i64 a, .int .i64 n] 67)) from (Below.refl _ w).alloc (Nat.le_refl _) _)
  have TK := Lib.hid (fun u => show Calls Tryd.prog 76 #[.int .i64 6] u fun e w' => e = .returned (.int .i64 2) ∧ u = w' from rtakes_any 6 u)
  have HROW := Lib.hid (row_take hs hm)
  have HM := Lib.hid hm
  have hk1 : (m : Int) + 2 ≤ cs := by omega
  have hk2 : decide ((8 : Int) < (m : Int) + 0) = false := decide_eq_false (by omega)
  have hk3 : decide (8 < m + 0) = false := decide_eq_false (by omega)
  have hk4 : (m : Int) ≤ 8 := by omega
  have hk5 : decide ((8 : Int) < (m : Int)) = false := decide_eq_false (by omega)
  have hk6 : decide (8 < m) = false := decide_eq_false (by omega)
  have hk7 : (m : Int) + 2 - 1 = m + 1 := by omega
  have hk8 : (m : Int) + 2 - 2 = m := by omega
  have hk9 : ((m : Int) + 1).toNat = m + 1 := by omega
  obtain ⟨sb, so, hS, hsb, ea⟩ := row_top (j := 0) hs hm (by decide) rfl
  rw [Nat.add_zero] at ea
  obtain ⟨sb', so', hS', _, eb⟩ := row_top (j := 1) hs hm (by decide) rfl
  rw [Nat.add_assoc] at eb
  obtain ⟨rfl, rfl⟩ : sb = sb' ∧ so = so' := by rw [hS] at hS'; injection hS' with e; injection e with e1 e2; exact ⟨e1, e2⟩
  subst hS
  obtain ⟨x, hx⟩ : ∃ x, cells[a]? = some x := ⟨_, List.getElem?_eq_getElem hlt⟩
  obtain ⟨xb, xo, hA, hxb, hcc⟩ := hr.2 (by omega)
  have e1 : w.cell? ⟨xb, xo + a * 6 + 1, none⟩ = some (.int .i64 x.kind) := by
    have h := hcc (a * 6 + 1) _ ((flat_get cellCells 6 cellCells_length cells a 1 x hx (by omega)).trans rfl)
    rw [← Nat.add_assoc] at h
    exact h
  have hcd : cellD cells a = x := by
    unfold cellD
    rw [if_neg (by omega), Int.toNat_natCast, List.getD_eq_getElem?_getD, hx]
    rfl
  subst hA
  have hlt' : (a : Int) < cells.length := by omega
  rw [hcd] at hb
  subst hb ha
  clear hr hcc hx hcd
  clear hs hm
  go_enter Tryd.func64, Tryd.ntmps64
  go_wp2_with (first | (go_at_call 76; refine (TK.out _).mono ?_; rintro e _ ⟨rfl, rfl⟩) | (at_builtin; refine wpList_append_row _ rfl _ _ 22 rfl w.heap.size 3 i0 _ 1 8 t27 hi hz0 hz1 hz2 rfl (by decide) _ 0 [] rfl ?qo w.heap.size (some ⟨sb, so, none⟩) m cs (base.map (Value.int .i64)) rfl ?qr ?q1 ?q4 ?q5 ?q6 ?_))
  case qo =>
    have h := World.ownsRow_made (base := w.heap.size) (e := 3) (size := 1) (w.alloc (.cells #[.int .i64 a0, .int .i64 a1, .int .i64 6, .int .i64 a, .int .i64 n] 67)) #[] 0 (by simp) (Nat.zero_le _) rfl
    have h' : ((w.alloc (.cells #[.int .i64 a0, .int .i64 a1, .int .i64 6, .int .i64 a, .int .i64 n] 67)).alloc (.cells #[] 3)).ownsRow w.heap.size 3 1 (.slice (some ⟨w.heap.size + 1, 0, none⟩) 0 0) 0 [] := by simpa using h
    exact h'
  case qr => exact (HROW.out.alloc (Nat.le_refl _) _).alloc (by simp) _
  case q1 => intro u hu; obtain ⟨x, _, rfl⟩ := List.mem_map.1 hu; rfl
  case q4 => unfold maxLen; omega
  case q5 => omega
  case q6 => first | omega | (simp; done) | (simp; omega)
  intro v1 w1 hown hgrow hat
  have hb1 : Below w.heap.size w w1 := ((HB0.out).alloc (by simp) _).grown hgrow (by simp; omega) (by intro k hk; simp [Value.ownBlock] at hk; omega)
  have hown' : w1.ownsRow w.heap.size 3 1 v1 m (base.map (Value.int .i64)) := by simpa using hown
  obtain ⟨b0, b3, b2, b1, b4⟩ := op_kept (by simp [Value.ownBlock]) hgrow
  have hz1w := hb1.size
  have HO1 := Lib.hid hown'
  have HB1 := Lib.hid hb1
  clear hown hown' hgrow hat hb1
  have e1 := (dcell HB1.out hxb _).trans e1
  have hxb1 : xb < w1.heap.size := by omega
  obtain ⟨R1, c1, hR1, hc11, hc12⟩ := own_slice HO1.out
  subst hR1
  unfold maxLen at hc12
  go_wp2
  go_ret2
  refine ⟨R1, c1, by simp [HM.out], by simp [HM.out]; omega, hc12, ?_, ?_⟩
  · have h := HO1.out
    simpa [HM.out] using h
  · repeat (first | exact HB1.out | refine Below.drew ?_ | refine below_dN _ ?_)
set_option maxHeartbeats 8000000 in
set_option maxRecDepth 100000 in
theorem does_not1 (A : Option Addr) (c : Nat) (cells : List CellD) (n a0 a1 : Int) (a : Nat) (w : World) (hr : Row w w.heap.size 6 A cells.length (cellRow cells)) (S : Option Addr) (cs m : Nat) (base : List Int) (b : Int) (hs : Row w w.heap.size 1 S (m + 1) ((base ++ [b]).map (Value.int .i64))) (hm : base.length = m) (hsc : m + 1 ≤ cs) (hm8 : m + 1 ≤ 8) (hb : b = 1) :
    Calls Tryd.prog 64 #[.slice A cells.length c, .agg #[.int .i64 a0, .int .i64 a1, .int .i64 15, .int .i64 a, .int .i64 n], .slice S (m + 1) cs] w (DoesBack w (base ++ [b])) := by
  obtain ⟨i0, hi, hz0, hz1, hz2⟩ := info_parts rcInfo
  have t27 := rcTy
  have HB0 := Lib.hid (show Below w.heap.size w (w.alloc (.cells #[.int .i64 a0, .int .i64 a1, .int .i64 15, .int .i64 a, .int .i64 n] 67)) from (Below.refl _ w).alloc (Nat.le_refl _) _)
  have TK := Lib.hid (fun u => show Calls Tryd.prog 76 #[.int .i64 15] u fun e w' => e = .returned (.int .i64 1) ∧ u = w' from rtakes_any 15 u)
  have HROW := Lib.hid (row_take hs hm)
  have HM := Lib.hid hm
  have hk1 : (m : Int) + 1 ≤ cs := by omega
  have hk2 : decide ((8 : Int) < (m : Int) + 1) = false := decide_eq_false (by omega)
  have hk3 : decide (8 < m + 1) = false := decide_eq_false (by omega)
  have hk4 : (m : Int) ≤ 8 := by omega
  obtain ⟨sb, so, hS, hsb, eb⟩ := row_top (j := 0) hs hm (by decide) rfl
  rw [Nat.add_zero] at eb
  subst hS
  subst hb
  clear hs hm hr
  go_enter Tryd.func64, Tryd.ntmps64
  go_wp2_with (first | (go_at_call 76; refine (TK.out _).mono ?_; rintro e _ ⟨rfl, rfl⟩) | (at_builtin; refine wpList_append_row _ rfl _ _ 22 rfl w.heap.size 3 i0 _ 1 8 t27 hi hz0 hz1 hz2 rfl (by decide) _ 0 [] rfl ?qo w.heap.size (some ⟨sb, so, none⟩) m cs (base.map (Value.int .i64)) rfl ?qr ?q1 ?q4 ?q5 ?q6 ?_))
  case qo =>
    have h := World.ownsRow_made (base := w.heap.size) (e := 3) (size := 1) (w.alloc (.cells #[.int .i64 a0, .int .i64 a1, .int .i64 15, .int .i64 a, .int .i64 n] 67)) #[] 0 (by simp) (Nat.zero_le _) rfl
    have h' : ((w.alloc (.cells #[.int .i64 a0, .int .i64 a1, .int .i64 15, .int .i64 a, .int .i64 n] 67)).alloc (.cells #[] 3)).ownsRow w.heap.size 3 1 (.slice (some ⟨w.heap.size + 1, 0, none⟩) 0 0) 0 [] := by simpa using h
    exact h'
  case qr => exact (HROW.out.alloc (Nat.le_refl _) _).alloc (by simp) _
  case q1 => intro u hu; obtain ⟨x, _, rfl⟩ := List.mem_map.1 hu; rfl
  case q4 => unfold maxLen; omega
  case q5 => omega
  case q6 => first | omega | (simp; done) | (simp; omega)
  intro v1 w1 hown hgrow hat
  have hb1 : Below w.heap.size w w1 := ((HB0.out).alloc (by simp) _).grown hgrow (by simp; omega) (by intro k hk; simp [Value.ownBlock] at hk; omega)
  have hown' : w1.ownsRow w.heap.size 3 1 v1 m (base.map (Value.int .i64)) := by simpa using hown
  obtain ⟨b0, b3, b2, b1, b4⟩ := op_kept (by simp [Value.ownBlock]) hgrow
  have hz1w := hb1.size
  have HO1 := Lib.hid hown'
  have HB1 := Lib.hid hb1
  clear hown hown' hgrow hat hb1
  go_wp2_with (at_builtin; refine wpList_append_own _ rfl _ _ 22 rfl w.heap.size 3 i0 _ 1 8 t27 hi hz0 hz1 hz2 rfl (by decide) _ m (base.map (Value.int .i64)) rfl (HO1.out.alloc _) ⟨_, 0, none⟩ 1 1 [.int .i64 1] rfl ?p1 ?p2 ?p3 ?p4 ?p5 ?p6 ?_)
  case p1 => rfl
  case p2 =>
    intro i u hj
    rw [Addr.add_lit]
    have hj' : i < 1 := by have := (List.getElem?_eq_some_iff.1 hj).1; simpa using this
    rcases (show i = 0 by omega) with rfl <;> (simp at hj; subst hj; go_simp)
  case p3 => intro u hu; simp at hu; subst hu; rfl
  case p4 => unfold maxLen; omega
  case p5 => omega
  case p6 => first | omega | (simp; done) | (simp; omega)
  intro v9 w9 hown hgrow hat
  obtain ⟨R9, c9, hR9, hc91, hc92⟩ := own_slice hown
  subst hR9
  unfold maxLen at hc92
  have HO9 := Lib.hid hown
  have HB9 := Lib.hid (show Below w.heap.size w w9 from ((HB1.out).alloc hz1w _).grown hgrow (by first | omega | (simp; done) | (simp; omega)) (fun k hk => (HO1.out.lt k hk).1))
  clear hown hgrow hat
  go_wp2
  go_ret2
  refine ⟨R9, c9, by simp [HM.out], by simp [HM.out]; omega, hc92, ?_, HB9.out⟩
  have h := HO9.out
  simpa [HM.out] using h
set_option maxHeartbeats 8000000 in
set_option maxRecDepth 100000 in
theorem does_not2 (A : Option Addr) (c : Nat) (cells : List CellD) (n a0 a1 : Int) (a : Nat) (w : World) (hr : Row w w.heap.size 6 A cells.length (cellRow cells)) (S : Option Addr) (cs m : Nat) (base : List Int) (b : Int) (hs : Row w w.heap.size 1 S (m + 1) ((base ++ [b]).map (Value.int .i64))) (hm : base.length = m) (hsc : m + 1 ≤ cs) (hm8 : m + 1 ≤ 8) (hb : b = 2) :
    Calls Tryd.prog 64 #[.slice A cells.length c, .agg #[.int .i64 a0, .int .i64 a1, .int .i64 15, .int .i64 a, .int .i64 n], .slice S (m + 1) cs] w (DoesBack w (base ++ [b])) := by
  obtain ⟨i0, hi, hz0, hz1, hz2⟩ := info_parts rcInfo
  have t27 := rcTy
  have HB0 := Lib.hid (show Below w.heap.size w (w.alloc (.cells #[.int .i64 a0, .int .i64 a1, .int .i64 15, .int .i64 a, .int .i64 n] 67)) from (Below.refl _ w).alloc (Nat.le_refl _) _)
  have TK := Lib.hid (fun u => show Calls Tryd.prog 76 #[.int .i64 15] u fun e w' => e = .returned (.int .i64 1) ∧ u = w' from rtakes_any 15 u)
  have HROW := Lib.hid (row_take hs hm)
  have HM := Lib.hid hm
  have hk1 : (m : Int) + 1 ≤ cs := by omega
  have hk2 : decide ((8 : Int) < (m : Int) + 1) = false := decide_eq_false (by omega)
  have hk3 : decide (8 < m + 1) = false := decide_eq_false (by omega)
  have hk4 : (m : Int) ≤ 8 := by omega
  obtain ⟨sb, so, hS, hsb, eb⟩ := row_top (j := 0) hs hm (by decide) rfl
  rw [Nat.add_zero] at eb
  subst hS
  subst hb
  clear hs hm hr
  go_enter Tryd.func64, Tryd.ntmps64
  go_wp2_with (first | (go_at_call 76; refine (TK.out _).mono ?_; rintro e _ ⟨rfl, rfl⟩) | (at_builtin; refine wpList_append_row _ rfl _ _ 22 rfl w.heap.size 3 i0 _ 1 8 t27 hi hz0 hz1 hz2 rfl (by decide) _ 0 [] rfl ?qo w.heap.size (some ⟨sb, so, none⟩) m cs (base.map (Value.int .i64)) rfl ?qr ?q1 ?q4 ?q5 ?q6 ?_))
  case qo =>
    have h := World.ownsRow_made (base := w.heap.size) (e := 3) (size := 1) (w.alloc (.cells #[.int .i64 a0, .int .i64 a1, .int .i64 15, .int .i64 a, .int .i64 n] 67)) #[] 0 (by simp) (Nat.zero_le _) rfl
    have h' : ((w.alloc (.cells #[.int .i64 a0, .int .i64 a1, .int .i64 15, .int .i64 a, .int .i64 n] 67)).alloc (.cells #[] 3)).ownsRow w.heap.size 3 1 (.slice (some ⟨w.heap.size + 1, 0, none⟩) 0 0) 0 [] := by simpa using h
    exact h'
  case qr => exact (HROW.out.alloc (Nat.le_refl _) _).alloc (by simp) _
  case q1 => intro u hu; obtain ⟨x, _, rfl⟩ := List.mem_map.1 hu; rfl
  case q4 => unfold maxLen; omega
  case q5 => omega
  case q6 => first | omega | (simp; done) | (simp; omega)
  intro v1 w1 hown hgrow hat
  have hb1 : Below w.heap.size w w1 := ((HB0.out).alloc (by simp) _).grown hgrow (by simp; omega) (by intro k hk; simp [Value.ownBlock] at hk; omega)
  have hown' : w1.ownsRow w.heap.size 3 1 v1 m (base.map (Value.int .i64)) := by simpa using hown
  obtain ⟨b0, b3, b2, b1, b4⟩ := op_kept (by simp [Value.ownBlock]) hgrow
  have hz1w := hb1.size
  have HO1 := Lib.hid hown'
  have HB1 := Lib.hid hb1
  clear hown hown' hgrow hat hb1
  go_wp2_with (at_builtin; refine wpList_append_own _ rfl _ _ 22 rfl w.heap.size 3 i0 _ 1 8 t27 hi hz0 hz1 hz2 rfl (by decide) _ m (base.map (Value.int .i64)) rfl (HO1.out.alloc _) ⟨_, 0, none⟩ 1 1 [.int .i64 2] rfl ?p1 ?p2 ?p3 ?p4 ?p5 ?p6 ?_)
  case p1 => rfl
  case p2 =>
    intro i u hj
    rw [Addr.add_lit]
    have hj' : i < 1 := by have := (List.getElem?_eq_some_iff.1 hj).1; simpa using this
    rcases (show i = 0 by omega) with rfl <;> (simp at hj; subst hj; go_simp)
  case p3 => intro u hu; simp at hu; subst hu; rfl
  case p4 => unfold maxLen; omega
  case p5 => omega
  case p6 => first | omega | (simp; done) | (simp; omega)
  intro v9 w9 hown hgrow hat
  obtain ⟨R9, c9, hR9, hc91, hc92⟩ := own_slice hown
  subst hR9
  unfold maxLen at hc92
  have HO9 := Lib.hid hown
  have HB9 := Lib.hid (show Below w.heap.size w w9 from ((HB1.out).alloc hz1w _).grown hgrow (by first | omega | (simp; done) | (simp; omega)) (fun k hk => (HO1.out.lt k hk).1))
  clear hown hgrow hat
  go_wp2
  go_ret2
  refine ⟨R9, c9, by simp [HM.out], by simp [HM.out]; omega, hc92, ?_, HB9.out⟩
  have h := HO9.out
  simpa [HM.out] using h
set_option maxHeartbeats 8000000 in
set_option maxRecDepth 100000 in
theorem does_not3 (A : Option Addr) (c : Nat) (cells : List CellD) (n a0 a1 : Int) (a : Nat) (w : World) (hr : Row w w.heap.size 6 A cells.length (cellRow cells)) (S : Option Addr) (cs m : Nat) (base : List Int) (b : Int) (hs : Row w w.heap.size 1 S (m + 1) ((base ++ [b]).map (Value.int .i64))) (hm : base.length = m) (hsc : m + 1 ≤ cs) (hm8 : m + 1 ≤ 8) (hb : b = 3) :
    Calls Tryd.prog 64 #[.slice A cells.length c, .agg #[.int .i64 a0, .int .i64 a1, .int .i64 15, .int .i64 a, .int .i64 n], .slice S (m + 1) cs] w (DoesBack w (base ++ [b])) := by
  obtain ⟨i0, hi, hz0, hz1, hz2⟩ := info_parts rcInfo
  have t27 := rcTy
  have HB0 := Lib.hid (show Below w.heap.size w (w.alloc (.cells #[.int .i64 a0, .int .i64 a1, .int .i64 15, .int .i64 a, .int .i64 n] 67)) from (Below.refl _ w).alloc (Nat.le_refl _) _)
  have TK := Lib.hid (fun u => show Calls Tryd.prog 76 #[.int .i64 15] u fun e w' => e = .returned (.int .i64 1) ∧ u = w' from rtakes_any 15 u)
  have HROW := Lib.hid (row_take hs hm)
  have HM := Lib.hid hm
  have hk1 : (m : Int) + 1 ≤ cs := by omega
  have hk2 : decide ((8 : Int) < (m : Int) + 1) = false := decide_eq_false (by omega)
  have hk3 : decide (8 < m + 1) = false := decide_eq_false (by omega)
  have hk4 : (m : Int) ≤ 8 := by omega
  obtain ⟨sb, so, hS, hsb, eb⟩ := row_top (j := 0) hs hm (by decide) rfl
  rw [Nat.add_zero] at eb
  subst hS
  subst hb
  clear hs hm hr
  go_enter Tryd.func64, Tryd.ntmps64
  go_wp2_with (first | (go_at_call 76; refine (TK.out _).mono ?_; rintro e _ ⟨rfl, rfl⟩) | (at_builtin; refine wpList_append_row _ rfl _ _ 22 rfl w.heap.size 3 i0 _ 1 8 t27 hi hz0 hz1 hz2 rfl (by decide) _ 0 [] rfl ?qo w.heap.size (some ⟨sb, so, none⟩) m cs (base.map (Value.int .i64)) rfl ?qr ?q1 ?q4 ?q5 ?q6 ?_))
  case qo =>
    have h := World.ownsRow_made (base := w.heap.size) (e := 3) (size := 1) (w.alloc (.cells #[.int .i64 a0, .int .i64 a1, .int .i64 15, .int .i64 a, .int .i64 n] 67)) #[] 0 (by simp) (Nat.zero_le _) rfl
    have h' : ((w.alloc (.cells #[.int .i64 a0, .int .i64 a1, .int .i64 15, .int .i64 a, .int .i64 n] 67)).alloc (.cells #[] 3)).ownsRow w.heap.size 3 1 (.slice (some ⟨w.heap.size + 1, 0, none⟩) 0 0) 0 [] := by simpa using h
    exact h'
  case qr => exact (HROW.out.alloc (Nat.le_refl _) _).alloc (by simp) _
  case q1 => intro u hu; obtain ⟨x, _, rfl⟩ := List.mem_map.1 hu; rfl
  case q4 => unfold maxLen; omega
  case q5 => omega
  case q6 => first | omega | (simp; done) | (simp; omega)
  intro v1 w1 hown hgrow hat
  have hb1 : Below w.heap.size w w1 := ((HB0.out).alloc (by simp) _).grown hgrow (by simp; omega) (by intro k hk; simp [Value.ownBlock] at hk; omega)
  have hown' : w1.ownsRow w.heap.size 3 1 v1 m (base.map (Value.int .i64)) := by simpa using hown
  obtain ⟨b0, b3, b2, b1, b4⟩ := op_kept (by simp [Value.ownBlock]) hgrow
  have hz1w := hb1.size
  have HO1 := Lib.hid hown'
  have HB1 := Lib.hid hb1
  clear hown hown' hgrow hat hb1
  go_wp2_with (at_builtin; refine wpList_append_own _ rfl _ _ 22 rfl w.heap.size 3 i0 _ 1 8 t27 hi hz0 hz1 hz2 rfl (by decide) _ m (base.map (Value.int .i64)) rfl (HO1.out.alloc _) ⟨_, 0, none⟩ 1 1 [.int .i64 3] rfl ?p1 ?p2 ?p3 ?p4 ?p5 ?p6 ?_)
  case p1 => rfl
  case p2 =>
    intro i u hj
    rw [Addr.add_lit]
    have hj' : i < 1 := by have := (List.getElem?_eq_some_iff.1 hj).1; simpa using this
    rcases (show i = 0 by omega) with rfl <;> (simp at hj; subst hj; go_simp)
  case p3 => intro u hu; simp at hu; subst hu; rfl
  case p4 => unfold maxLen; omega
  case p5 => omega
  case p6 => first | omega | (simp; done) | (simp; omega)
  intro v9 w9 hown hgrow hat
  obtain ⟨R9, c9, hR9, hc91, hc92⟩ := own_slice hown
  subst hR9
  unfold maxLen at hc92
  have HO9 := Lib.hid hown
  have HB9 := Lib.hid (show Below w.heap.size w w9 from ((HB1.out).alloc hz1w _).grown hgrow (by first | omega | (simp; done) | (simp; omega)) (fun k hk => (HO1.out.lt k hk).1))
  clear hown hgrow hat
  go_wp2
  go_ret2
  refine ⟨R9, c9, by simp [HM.out], by simp [HM.out]; omega, hc92, ?_, HB9.out⟩
  have h := HO9.out
  simpa [HM.out] using h
set_option maxHeartbeats 8000000 in
set_option maxRecDepth 100000 in
theorem does_jz (A : Option Addr) (c : Nat) (cells : List CellD) (n a0 a1 : Int) (a : Nat) (w : World) (hr : Row w w.heap.size 6 A cells.length (cellRow cells)) (S : Option Addr) (cs m : Nat) (base : List Int) (b : Int) (hs : Row w w.heap.size 1 S (m + 1) ((base ++ [b]).map (Value.int .i64))) (hm : base.length = m) (hsc : m + 1 ≤ cs) (hm8 : m + 0 ≤ 8) (hb : b = 1) :
    Calls Tryd.prog 64 #[.slice A cells.length c, .agg #[.int .i64 a0, .int .i64 a1, .int .i64 19, .int .i64 a, .int .i64 n], .slice S (m + 1) cs] w (DoesBack w (base)) := by
  obtain ⟨i0, hi, hz0, hz1, hz2⟩ := info_parts rcInfo
  have t27 := rcTy
  have HB0 := Lib.hid (show Below w.heap.size w (w.alloc (.cells #[.int .i64 a0, .int .i64 a1, .int .i64 19, .int .i64 a, .int .i64 n] 67)) from (Below.refl _ w).alloc (Nat.le_refl _) _)
  have TK := Lib.hid (fun u => show Calls Tryd.prog 76 #[.int .i64 19] u fun e w' => e = .returned (.int .i64 1) ∧ u = w' from rtakes_any 19 u)
  have HROW := Lib.hid (row_take hs hm)
  have HM := Lib.hid hm
  have hk1 : (m : Int) + 1 ≤ cs := by omega
  have hk2 : decide ((8 : Int) < (m : Int) + 0) = false := decide_eq_false (by omega)
  have hk3 : decide (8 < m + 0) = false := decide_eq_false (by omega)
  have hk4 : (m : Int) ≤ 8 := by omega
  have hk5 : decide ((8 : Int) < (m : Int)) = false := decide_eq_false (by omega)
  have hk6 : decide (8 < m) = false := decide_eq_false (by omega)
  obtain ⟨sb, so, hS, hsb, eb⟩ := row_top (j := 0) hs hm (by decide) rfl
  rw [Nat.add_zero] at eb
  subst hS
  subst hb
  clear hs hm hr
  go_enter Tryd.func64, Tryd.ntmps64
  go_wp2_with (first | (go_at_call 76; refine (TK.out _).mono ?_; rintro e _ ⟨rfl, rfl⟩) | (at_builtin; refine wpList_append_row _ rfl _ _ 22 rfl w.heap.size 3 i0 _ 1 8 t27 hi hz0 hz1 hz2 rfl (by decide) _ 0 [] rfl ?qo w.heap.size (some ⟨sb, so, none⟩) m cs (base.map (Value.int .i64)) rfl ?qr ?q1 ?q4 ?q5 ?q6 ?_))
  case qo =>
    have h := World.ownsRow_made (base := w.heap.size) (e := 3) (size := 1) (w.alloc (.cells #[.int .i64 a0, .int .i64 a1, .int .i64 19, .int .i64 a, .int .i64 n] 67)) #[] 0 (by simp) (Nat.zero_le _) rfl
    have h' : ((w.alloc (.cells #[.int .i64 a0, .int .i64 a1, .int .i64 19, .int .i64 a, .int .i64 n] 67)).alloc (.cells #[] 3)).ownsRow w.heap.size 3 1 (.slice (some ⟨w.heap.size + 1, 0, none⟩) 0 0) 0 [] := by simpa using h
    exact h'
  case qr => exact (HROW.out.alloc (Nat.le_refl _) _).alloc (by simp) _
  case q1 => intro u hu; obtain ⟨x, _, rfl⟩ := List.mem_map.1 hu; rfl
  case q4 => unfold maxLen; omega
  case q5 => omega
  case q6 => first | omega | (simp; done) | (simp; omega)
  intro v1 w1 hown hgrow hat
  have hb1 : Below w.heap.size w w1 := ((HB0.out).alloc (by simp) _).grown hgrow (by simp; omega) (by intro k hk; simp [Value.ownBlock] at hk; omega)
  have hown' : w1.ownsRow w.heap.size 3 1 v1 m (base.map (Value.int .i64)) := by simpa using hown
  obtain ⟨b0, b3, b2, b1, b4⟩ := op_kept (by simp [Value.ownBlock]) hgrow
  have hz1w := hb1.size
  have HO1 := Lib.hid hown'
  have HB1 := Lib.hid hb1
  clear hown hown' hgrow hat hb1
  obtain ⟨R1, c1, hR1, hc11, hc12⟩ := own_slice HO1.out
  subst hR1
  unfold maxLen at hc12
  go_wp2
  go_ret2
  refine ⟨R1, c1, by simp [HM.out], by simp [HM.out]; omega, hc12, ?_, ?_⟩
  · have h := HO1.out
    simpa [HM.out] using h
  · repeat (first | exact HB1.out | refine Below.drew ?_ | refine below_dN _ ?_)
set_option maxHeartbeats 8000000 in
set_option maxRecDepth 100000 in
theorem does_dup (A : Option Addr) (c : Nat) (cells : List CellD) (n a0 a1 : Int) (a : Nat) (w : World) (hr : Row w w.heap.size 6 A cells.length (cellRow cells)) (S : Option Addr) (cs m : Nat) (base : List Int) (b : Int) (hs : Row w w.heap.size 1 S (m + 1) ((base ++ [b]).map (Value.int .i64))) (hm : base.length = m) (hsc : m + 1 ≤ cs) (hm8 : m + 2 ≤ 8) :
    Calls Tryd.prog 64 #[.slice A cells.length c, .agg #[.int .i64 a0, .int .i64 a1, .int .i64 21, .int .i64 a, .int .i64 n], .slice S (m + 1) cs] w (DoesBack w (base ++ [b, b])) := by
  obtain ⟨i0, hi, hz0, hz1, hz2⟩ := info_parts rcInfo
  have t27 := rcTy
  have HB0 := Lib.hid (show Below w.heap.size w (w.alloc (.cells #[.int .i64 a0, .int .i64 a1, .int .i64 21, .int .i64 a, .int .i64 n] 67)) from (Below.refl _ w).alloc (Nat.le_refl _) _)
  have TK := Lib.hid (fun u => show Calls Tryd.prog 76 #[.int .i64 21] u fun e w' => e = .returned (.int .i64 1) ∧ u = w' from rtakes_any 21 u)
  have HROW := Lib.hid (row_take hs hm)
  have HM := Lib.hid hm
  have hk1 : (m : Int) + 1 ≤ cs := by omega
  have hk2 : decide ((8 : Int) < (m : Int) + 2) = false := decide_eq_false (by omega)
  have hk3 : decide (8 < m + 2) = false := decide_eq_false (by omega)
  have hk4 : (m : Int) ≤ 8 := by omega
  obtain ⟨sb, so, hS, hsb, eb⟩ := row_top (j := 0) hs hm (by decide) rfl
  rw [Nat.add_zero] at eb
  subst hS
  clear hs hm hr
  go_enter Tryd.func64, Tryd.ntmps64
  go_wp2_with (first | (go_at_call 76; refine (TK.out _).mono ?_; rintro e _ ⟨rfl, rfl⟩) | (at_builtin; refine wpList_append_row _ rfl _ _ 22 rfl w.heap.size 3 i0 _ 1 8 t27 hi hz0 hz1 hz2 rfl (by decide) _ 0 [] rfl ?qo w.heap.size (some ⟨sb, so, none⟩) m cs (base.map (Value.int .i64)) rfl ?qr ?q1 ?q4 ?q5 ?q6 ?_))
  case qo =>
    have h := World.ownsRow_made (base := w.heap.size) (e := 3) (size := 1) (w.alloc (.cells #[.int .i64 a0, .int .i64 a1, .int .i64 21, .int .i64 a, .int .i64 n] 67)) #[] 0 (by simp) (Nat.zero_le _) rfl
    have h' : ((w.alloc (.cells #[.int .i64 a0, .int .i64 a1, .int .i64 21, .int .i64 a, .int .i64 n] 67)).alloc (.cells #[] 3)).ownsRow w.heap.size 3 1 (.slice (some ⟨w.heap.size + 1, 0, none⟩) 0 0) 0 [] := by simpa using h
    exact h'
  case qr => exact (HROW.out.alloc (Nat.le_refl _) _).alloc (by simp) _
  case q1 => intro u hu; obtain ⟨x, _, rfl⟩ := List.mem_map.1 hu; rfl
  case q4 => unfold maxLen; omega
  case q5 => omega
  case q6 => first | omega | (simp; done) | (simp; omega)
  intro v1 w1 hown hgrow hat
  have hb1 : Below w.heap.size w w1 := ((HB0.out).alloc (by simp) _).grown hgrow (by simp; omega) (by intro k hk; simp [Value.ownBlock] at hk; omega)
  have hown' : w1.ownsRow w.heap.size 3 1 v1 m (base.map (Value.int .i64)) := by simpa using hown
  obtain ⟨b0, b3, b2, b1, b4⟩ := op_kept (by simp [Value.ownBlock]) hgrow
  have hz1w := hb1.size
  have HO1 := Lib.hid hown'
  have HB1 := Lib.hid hb1
  clear hown hown' hgrow hat hb1
  go_wp2_with (at_builtin; refine wpList_append_own _ rfl _ _ 22 rfl w.heap.size 3 i0 _ 1 8 t27 hi hz0 hz1 hz2 rfl (by decide) _ m (base.map (Value.int .i64)) rfl (HO1.out.alloc _) ⟨_, 0, none⟩ 2 2 [.int .i64 b, .int .i64 b] rfl ?p1 ?p2 ?p3 ?p4 ?p5 ?p6 ?_)
  case p1 => rfl
  case p2 =>
    intro i u hj
    rw [Addr.add_lit]
    have hj' : i < 2 := by have := (List.getElem?_eq_some_iff.1 hj).1; simpa using this
    rcases (show i = 0 ∨ i = 1 by omega) with rfl | rfl <;> (simp at hj; subst hj; go_simp)
  case p3 => intro u hu; simp at hu; rcases hu with rfl | rfl <;> rfl
  case p4 => unfold maxLen; omega
  case p5 => omega
  case p6 => first | omega | (simp; done) | (simp; omega)
  intro v9 w9 hown hgrow hat
  obtain ⟨R9, c9, hR9, hc91, hc92⟩ := own_slice hown
  subst hR9
  unfold maxLen at hc92
  have HO9 := Lib.hid hown
  have HB9 := Lib.hid (show Below w.heap.size w w9 from ((HB1.out).alloc hz1w _).grown hgrow (by first | omega | (simp; done) | (simp; omega)) (fun k hk => (HO1.out.lt k hk).1))
  clear hown hgrow hat
  go_wp2
  go_ret2
  refine ⟨R9, c9, by simp [HM.out], by simp [HM.out]; omega, hc92, ?_, HB9.out⟩
  have h := HO9.out
  simpa [HM.out] using h
set_option maxHeartbeats 8000000 in
set_option maxRecDepth 100000 in
theorem does_drop (A : Option Addr) (c : Nat) (cells : List CellD) (n a0 a1 : Int) (a : Nat) (w : World) (hr : Row w w.heap.size 6 A cells.length (cellRow cells)) (S : Option Addr) (cs m : Nat) (base : List Int) (b : Int) (hs : Row w w.heap.size 1 S (m + 1) ((base ++ [b]).map (Value.int .i64))) (hm : base.length = m) (hsc : m + 1 ≤ cs) (hm8 : m + 0 ≤ 8) :
    Calls Tryd.prog 64 #[.slice A cells.length c, .agg #[.int .i64 a0, .int .i64 a1, .int .i64 22, .int .i64 a, .int .i64 n], .slice S (m + 1) cs] w (DoesBack w (base)) := by
  obtain ⟨i0, hi, hz0, hz1, hz2⟩ := info_parts rcInfo
  have t27 := rcTy
  have HB0 := Lib.hid (show Below w.heap.size w (w.alloc (.cells #[.int .i64 a0, .int .i64 a1, .int .i64 22, .int .i64 a, .int .i64 n] 67)) from (Below.refl _ w).alloc (Nat.le_refl _) _)
  have TK := Lib.hid (fun u => show Calls Tryd.prog 76 #[.int .i64 22] u fun e w' => e = .returned (.int .i64 1) ∧ u = w' from rtakes_any 22 u)
  have HROW := Lib.hid (row_take hs hm)
  have HM := Lib.hid hm
  have hk1 : (m : Int) + 1 ≤ cs := by omega
  have hk2 : decide ((8 : Int) < (m : Int) + 0) = false := decide_eq_false (by omega)
  have hk3 : decide (8 < m + 0) = false := decide_eq_false (by omega)
  have hk4 : (m : Int) ≤ 8 := by omega
  have hk5 : decide ((8 : Int) < (m : Int)) = false := decide_eq_false (by omega)
  have hk6 : decide (8 < m) = false := decide_eq_false (by omega)
  obtain ⟨sb, so, hS, hsb, eb⟩ := row_top (j := 0) hs hm (by decide) rfl
  rw [Nat.add_zero] at eb
  subst hS
  clear hs hm hr
  go_enter Tryd.func64, Tryd.ntmps64
  go_wp2_with (first | (go_at_call 76; refine (TK.out _).mono ?_; rintro e _ ⟨rfl, rfl⟩) | (at_builtin; refine wpList_append_row _ rfl _ _ 22 rfl w.heap.size 3 i0 _ 1 8 t27 hi hz0 hz1 hz2 rfl (by decide) _ 0 [] rfl ?qo w.heap.size (some ⟨sb, so, none⟩) m cs (base.map (Value.int .i64)) rfl ?qr ?q1 ?q4 ?q5 ?q6 ?_))
  case qo =>
    have h := World.ownsRow_made (base := w.heap.size) (e := 3) (size := 1) (w.alloc (.cells #[.int .i64 a0, .int .i64 a1, .int .i64 22, .int .i64 a, .int .i64 n] 67)) #[] 0 (by simp) (Nat.zero_le _) rfl
    have h' : ((w.alloc (.cells #[.int .i64 a0, .int .i64 a1, .int .i64 22, .int .i64 a, .int .i64 n] 67)).alloc (.cells #[] 3)).ownsRow w.heap.size 3 1 (.slice (some ⟨w.heap.size + 1, 0, none⟩) 0 0) 0 [] := by simpa using h
    exact h'
  case qr => exact (HROW.out.alloc (Nat.le_refl _) _).alloc (by simp) _
  case q1 => intro u hu; obtain ⟨x, _, rfl⟩ := List.mem_map.1 hu; rfl
  case q4 => unfold maxLen; omega
  case q5 => omega
  case q6 => first | omega | (simp; done) | (simp; omega)
  intro v1 w1 hown hgrow hat
  have hb1 : Below w.heap.size w w1 := ((HB0.out).alloc (by simp) _).grown hgrow (by simp; omega) (by intro k hk; simp [Value.ownBlock] at hk; omega)
  have hown' : w1.ownsRow w.heap.size 3 1 v1 m (base.map (Value.int .i64)) := by simpa using hown
  obtain ⟨b0, b3, b2, b1, b4⟩ := op_kept (by simp [Value.ownBlock]) hgrow
  have hz1w := hb1.size
  have HO1 := Lib.hid hown'
  have HB1 := Lib.hid hb1
  clear hown hown' hgrow hat hb1
  obtain ⟨R1, c1, hR1, hc11, hc12⟩ := own_slice HO1.out
  subst hR1
  unfold maxLen at hc12
  go_wp2
  go_ret2
  refine ⟨R1, c1, by simp [HM.out], by simp [HM.out]; omega, hc12, ?_, ?_⟩
  · have h := HO1.out
    simpa [HM.out] using h
  · repeat (first | exact HB1.out | refine Below.drew ?_ | refine below_dN _ ?_)
set_option maxHeartbeats 8000000 in
set_option maxRecDepth 100000 in
theorem does_conv (A : Option Addr) (c : Nat) (cells : List CellD) (n a0 a1 : Int) (a : Nat) (w : World) (hr : Row w w.heap.size 6 A cells.length (cellRow cells)) (S : Option Addr) (cs m : Nat) (base : List Int) (b : Int) (hs : Row w w.heap.size 1 S (m + 1) ((base ++ [b]).map (Value.int .i64))) (hm : base.length = m) (hsc : m + 1 ≤ cs) (hm8 : m + 1 ≤ 8) :
    Calls Tryd.prog 64 #[.slice A cells.length c, .agg #[.int .i64 a0, .int .i64 a1, .int .i64 23, .int .i64 a, .int .i64 n], .slice S (m + 1) cs] w (DoesBack w (base ++ [(a : Int)])) := by
  obtain ⟨i0, hi, hz0, hz1, hz2⟩ := info_parts rcInfo
  have t27 := rcTy
  have HB0 := Lib.hid (show Below w.heap.size w (w.alloc (.cells #[.int .i64 a0, .int .i64 a1, .int .i64 23, .int .i64 a, .int .i64 n] 67)) from (Below.refl _ w).alloc (Nat.le_refl _) _)
  have TK := Lib.hid (fun u => show Calls Tryd.prog 76 #[.int .i64 23] u fun e w' => e = .returned (.int .i64 1) ∧ u = w' from rtakes_any 23 u)
  have HROW := Lib.hid (row_take hs hm)
  have HM := Lib.hid hm
  have hk1 : (m : Int) + 1 ≤ cs := by omega
  have hk2 : decide ((8 : Int) < (m : Int) + 1) = false := decide_eq_false (by omega)
  have hk3 : decide (8 < m + 1) = false := decide_eq_false (by omega)
  have hk4 : (m : Int) ≤ 8 := by omega
  obtain ⟨sb, so, hS, hsb, eb⟩ := row_top (j := 0) hs hm (by decide) rfl
  rw [Nat.add_zero] at eb
  subst hS
  clear hs hm hr
  go_enter Tryd.func64, Tryd.ntmps64
  go_wp2_with (first | (go_at_call 76; refine (TK.out _).mono ?_; rintro e _ ⟨rfl, rfl⟩) | (at_builtin; refine wpList_append_row _ rfl _ _ 22 rfl w.heap.size 3 i0 _ 1 8 t27 hi hz0 hz1 hz2 rfl (by decide) _ 0 [] rfl ?qo w.heap.size (some ⟨sb, so, none⟩) m cs (base.map (Value.int .i64)) rfl ?qr ?q1 ?q4 ?q5 ?q6 ?_))
  case qo =>
    have h := World.ownsRow_made (base := w.heap.size) (e := 3) (size := 1) (w.alloc (.cells #[.int .i64 a0, .int .i64 a1, .int .i64 23, .int .i64 a, .int .i64 n] 67)) #[] 0 (by simp) (Nat.zero_le _) rfl
    have h' : ((w.alloc (.cells #[.int .i64 a0, .int .i64 a1, .int .i64 23, .int .i64 a, .int .i64 n] 67)).alloc (.cells #[] 3)).ownsRow w.heap.size 3 1 (.slice (some ⟨w.heap.size + 1, 0, none⟩) 0 0) 0 [] := by simpa using h
    exact h'
  case qr => exact (HROW.out.alloc (Nat.le_refl _) _).alloc (by simp) _
  case q1 => intro u hu; obtain ⟨x, _, rfl⟩ := List.mem_map.1 hu; rfl
  case q4 => unfold maxLen; omega
  case q5 => omega
  case q6 => first | omega | (simp; done) | (simp; omega)
  intro v1 w1 hown hgrow hat
  have hb1 : Below w.heap.size w w1 := ((HB0.out).alloc (by simp) _).grown hgrow (by simp; omega) (by intro k hk; simp [Value.ownBlock] at hk; omega)
  have hown' : w1.ownsRow w.heap.size 3 1 v1 m (base.map (Value.int .i64)) := by simpa using hown
  obtain ⟨b0, b3, b2, b1, b4⟩ := op_kept (by simp [Value.ownBlock]) hgrow
  have hz1w := hb1.size
  have HO1 := Lib.hid hown'
  have HB1 := Lib.hid hb1
  clear hown hown' hgrow hat hb1
  go_wp2_with (at_builtin; refine wpList_append_own _ rfl _ _ 22 rfl w.heap.size 3 i0 _ 1 8 t27 hi hz0 hz1 hz2 rfl (by decide) _ m (base.map (Value.int .i64)) rfl (HO1.out.alloc _) ⟨_, 0, none⟩ 1 1 [.int .i64 a] rfl ?p1 ?p2 ?p3 ?p4 ?p5 ?p6 ?_)
  case p1 => rfl
  case p2 =>
    intro i u hj
    rw [Addr.add_lit]
    have hj' : i < 1 := by have := (List.getElem?_eq_some_iff.1 hj).1; simpa using this
    rcases (show i = 0 by omega) with rfl <;> (simp at hj; subst hj; go_simp)
  case p3 => intro u hu; simp at hu; subst hu; rfl
  case p4 => unfold maxLen; omega
  case p5 => omega
  case p6 => first | omega | (simp; done) | (simp; omega)
  intro v9 w9 hown hgrow hat
  obtain ⟨R9, c9, hR9, hc91, hc92⟩ := own_slice hown
  subst hR9
  unfold maxLen at hc92
  have HO9 := Lib.hid hown
  have HB9 := Lib.hid (show Below w.heap.size w w9 from ((HB1.out).alloc hz1w _).grown hgrow (by first | omega | (simp; done) | (simp; omega)) (fun k hk => (HO1.out.lt k hk).1))
  clear hown hgrow hat
  go_wp2
  go_ret2
  refine ⟨R9, c9, by simp [HM.out], by simp [HM.out]; omega, hc92, ?_, HB9.out⟩
  have h := HO9.out
  simpa [HM.out] using h
set_option maxHeartbeats 8000000 in
set_option maxRecDepth 100000 in
theorem does_out (A : Option Addr) (c : Nat) (cells : List CellD) (n a0 a1 : Int) (a : Nat) (w : World) (hr : Row w w.heap.size 6 A cells.length (cellRow cells)) (S : Option Addr) (cs m : Nat) (base : List Int) (b : Int) (hs : Row w w.heap.size 1 S (m + 1) ((base ++ [b]).map (Value.int .i64))) (hm : base.length = m) (hsc : m + 1 ≤ cs) (hm8 : m + 0 ≤ 8) (hb : b = 5) :
    Calls Tryd.prog 64 #[.slice A cells.length c, .agg #[.int .i64 a0, .int .i64 a1, .int .i64 25, .int .i64 a, .int .i64 n], .slice S (m + 1) cs] w (DoesBack w (base)) := by
  obtain ⟨i0, hi, hz0, hz1, hz2⟩ := info_parts rcInfo
  have t27 := rcTy
  have HB0 := Lib.hid (show Below w.heap.size w (w.alloc (.cells #[.int .i64 a0, .int .i64 a1, .int .i64 25, .int .i64 a, .int .i64 n] 67)) from (Below.refl _ w).alloc (Nat.le_refl _) _)
  have TK := Lib.hid (fun u => show Calls Tryd.prog 76 #[.int .i64 25] u fun e w' => e = .returned (.int .i64 1) ∧ u = w' from rtakes_any 25 u)
  have HROW := Lib.hid (row_take hs hm)
  have HM := Lib.hid hm
  have hk1 : (m : Int) + 1 ≤ cs := by omega
  have hk2 : decide ((8 : Int) < (m : Int) + 0) = false := decide_eq_false (by omega)
  have hk3 : decide (8 < m + 0) = false := decide_eq_false (by omega)
  have hk4 : (m : Int) ≤ 8 := by omega
  have hk5 : decide ((8 : Int) < (m : Int)) = false := decide_eq_false (by omega)
  have hk6 : decide (8 < m) = false := decide_eq_false (by omega)
  obtain ⟨sb, so, hS, hsb, eb⟩ := row_top (j := 0) hs hm (by decide) rfl
  rw [Nat.add_zero] at eb
  subst hS
  subst hb
  clear hs hm hr
  go_enter Tryd.func64, Tryd.ntmps64
  go_wp2_with (first | (go_at_call 76; refine (TK.out _).mono ?_; rintro e _ ⟨rfl, rfl⟩) | (at_builtin; refine wpList_append_row _ rfl _ _ 22 rfl w.heap.size 3 i0 _ 1 8 t27 hi hz0 hz1 hz2 rfl (by decide) _ 0 [] rfl ?qo w.heap.size (some ⟨sb, so, none⟩) m cs (base.map (Value.int .i64)) rfl ?qr ?q1 ?q4 ?q5 ?q6 ?_))
  case qo =>
    have h := World.ownsRow_made (base := w.heap.size) (e := 3) (size := 1) (w.alloc (.cells #[.int .i64 a0, .int .i64 a1, .int .i64 25, .int .i64 a, .int .i64 n] 67)) #[] 0 (by simp) (Nat.zero_le _) rfl
    have h' : ((w.alloc (.cells #[.int .i64 a0, .int .i64 a1, .int .i64 25, .int .i64 a, .int .i64 n] 67)).alloc (.cells #[] 3)).ownsRow w.heap.size 3 1 (.slice (some ⟨w.heap.size + 1, 0, none⟩) 0 0) 0 [] := by simpa using h
    exact h'
  case qr => exact (HROW.out.alloc (Nat.le_refl _) _).alloc (by simp) _
  case q1 => intro u hu; obtain ⟨x, _, rfl⟩ := List.mem_map.1 hu; rfl
  case q4 => unfold maxLen; omega
  case q5 => omega
  case q6 => first | omega | (simp; done) | (simp; omega)
  intro v1 w1 hown hgrow hat
  have hb1 : Below w.heap.size w w1 := ((HB0.out).alloc (by simp) _).grown hgrow (by simp; omega) (by intro k hk; simp [Value.ownBlock] at hk; omega)
  have hown' : w1.ownsRow w.heap.size 3 1 v1 m (base.map (Value.int .i64)) := by simpa using hown
  obtain ⟨b0, b3, b2, b1, b4⟩ := op_kept (by simp [Value.ownBlock]) hgrow
  have hz1w := hb1.size
  have HO1 := Lib.hid hown'
  have HB1 := Lib.hid hb1
  clear hown hown' hgrow hat hb1
  obtain ⟨R1, c1, hR1, hc11, hc12⟩ := own_slice HO1.out
  subst hR1
  unfold maxLen at hc12
  go_wp2
  go_ret2
  refine ⟨R1, c1, by simp [HM.out], by simp [HM.out]; omega, hc12, ?_, ?_⟩
  · have h := HO1.out
    simpa [HM.out] using h
  · repeat (first | exact HB1.out | refine Below.drew ?_ | refine below_dN _ ?_)
set_option maxHeartbeats 8000000 in
set_option maxRecDepth 100000 in
theorem does_bin7 (A : Option Addr) (c : Nat) (cells : List CellD) (n a0 a1 : Int) (a : Nat) (w : World) (hr : Row w w.heap.size 6 A cells.length (cellRow cells)) (S : Option Addr) (cs m : Nat) (base : List Int) (aa b : Int) (hs : Row w w.heap.size 1 S (m + 2) ((base ++ [aa, b]).map (Value.int .i64))) (hm : base.length = m) (hsc : m + 2 ≤ cs) (hm8 : m + 1 ≤ 8) (hk : kindE 7 aa b = 0) :
    Calls Tryd.prog 64 #[.slice A cells.length c, .agg #[.int .i64 a0, .int .i64 a1, .int .i64 7, .int .i64 a, .int .i64 n], .slice S (m + 2) cs] w (DoesBack w (base ++ [kindM 7 aa b])) := by
  obtain ⟨i0, hi, hz0, hz1, hz2⟩ := info_parts rcInfo
  have t27 := rcTy
  have HB0 := Lib.hid (show Below w.heap.size w (w.alloc (.cells #[.int .i64 a0, .int .i64 a1, .int .i64 7, .int .i64 a, .int .i64 n] 67)) from (Below.refl _ w).alloc (Nat.le_refl _) _)
  have TK := Lib.hid (fun u => show Calls Tryd.prog 76 #[.int .i64 7] u fun e w' => e = .returned (.int .i64 2) ∧ u = w' from rtakes_any 7 u)
  have HROW := Lib.hid (row_take hs hm)
  have HM := Lib.hid hm
  have hk1 : (m : Int) + 2 ≤ cs := by omega
  have hk2 : decide ((8 : Int) < (m : Int) + 1) = false := decide_eq_false (by omega)
  have hk3 : decide (8 < m + 1) = false := decide_eq_false (by omega)
  have hk4 : (m : Int) ≤ 8 := by omega
  have hk7 : (m : Int) + 2 - 1 = m + 1 := by omega
  have hk8 : (m : Int) + 2 - 2 = m := by omega
  have hk9 : ((m : Int) + 1).toNat = m + 1 := by omega
  obtain ⟨sb, so, hS, hsb, ea⟩ := row_top (j := 0) hs hm (by decide) rfl
  rw [Nat.add_zero] at ea
  obtain ⟨sb', so', hS', _, eb⟩ := row_top (j := 1) hs hm (by decide) rfl
  rw [Nat.add_assoc] at eb
  obtain ⟨rfl, rfl⟩ : sb = sb' ∧ so = so' := by rw [hS] at hS'; injection hS' with e; injection e with e1 e2; exact ⟨e1, e2⟩
  subst hS
  have KD := fun u => rkind_7 aa b u
  rw [hk] at KD
  generalize kindM 7 aa b = kv at *
  have HKD := Lib.hid KD
  clear KD hk
  clear hs hm hr
  go_enter Tryd.func64, Tryd.ntmps64
  go_wp2_with (first | (go_at_call 76; refine (TK.out _).mono ?_; rintro e _ ⟨rfl, rfl⟩) | (at_builtin; refine wpList_append_row _ rfl _ _ 22 rfl w.heap.size 3 i0 _ 1 8 t27 hi hz0 hz1 hz2 rfl (by decide) _ 0 [] rfl ?qo w.heap.size (some ⟨sb, so, none⟩) m cs (base.map (Value.int .i64)) rfl ?qr ?q1 ?q4 ?q5 ?q6 ?_))
  case qo =>
    have h := World.ownsRow_made (base := w.heap.size) (e := 3) (size := 1) (w.alloc (.cells #[.int .i64 a0, .int .i64 a1, .int .i64 7, .int .i64 a, .int .i64 n] 67)) #[] 0 (by simp) (Nat.zero_le _) rfl
    have h' : ((w.alloc (.cells #[.int .i64 a0, .int .i64 a1, .int .i64 7, .int .i64 a, .int .i64 n] 67)).alloc (.cells #[] 3)).ownsRow w.heap.size 3 1 (.slice (some ⟨w.heap.size + 1, 0, none⟩) 0 0) 0 [] := by simpa using h
    exact h'
  case qr => exact (HROW.out.alloc (Nat.le_refl _) _).alloc (by simp) _
  case q1 => intro u hu; obtain ⟨x, _, rfl⟩ := List.mem_map.1 hu; rfl
  case q4 => unfold maxLen; omega
  case q5 => omega
  case q6 => first | omega | (simp; done) | (simp; omega)
  intro v1 w1 hown hgrow hat
  have hb1 : Below w.heap.size w w1 := ((HB0.out).alloc (by simp) _).grown hgrow (by simp; omega) (by intro k hk; simp [Value.ownBlock] at hk; omega)
  have hown' : w1.ownsRow w.heap.size 3 1 v1 m (base.map (Value.int .i64)) := by simpa using hown
  obtain ⟨b0, b3, b2, b1, b4⟩ := op_kept (by simp [Value.ownBlock]) hgrow
  have hz1w := hb1.size
  have HO1 := Lib.hid hown'
  have HB1 := Lib.hid hb1
  clear hown hown' hgrow hat hb1
  go_wp2_with (first | (go_at_call 42; refine (HKD.out _).mono ?_; rintro e _ ⟨rfl, rfl⟩) | (at_builtin; refine wpList_append_own _ rfl _ _ 22 rfl w.heap.size 3 i0 _ 1 8 t27 hi hz0 hz1 hz2 rfl (by decide) _ m (base.map (Value.int .i64)) rfl (HO1.out.alloc _) ⟨_, 0, none⟩ 1 1 [.int .i64 kv] rfl ?p1 ?p2 ?p3 ?p4 ?p5 ?p6 ?_))
  case p1 => rfl
  case p2 =>
    intro i u hj
    rw [Addr.add_lit]
    have hj' : i < 1 := by have := (List.getElem?_eq_some_iff.1 hj).1; simpa using this
    rcases (show i = 0 by omega) with rfl <;> (simp at hj; subst hj; go_simp)
  case p3 => intro u hu; simp at hu; subst hu; rfl
  case p4 => unfold maxLen; omega
  case p5 => omega
  case p6 => first | omega | (simp; done) | (simp; omega)
  intro v9 w9 hown hgrow hat
  obtain ⟨R9, c9, hR9, hc91, hc92⟩ := own_slice hown
  subst hR9
  unfold maxLen at hc92
  have HO9 := Lib.hid hown
  have HB9 := Lib.hid (show Below w.heap.size w w9 from ((HB1.out).alloc hz1w _).grown hgrow (by first | omega | (simp; done) | (simp; omega)) (fun k hk => (HO1.out.lt k hk).1))
  clear hown hgrow hat
  go_wp2
  go_ret2
  refine ⟨R9, c9, by simp [HM.out], by simp [HM.out]; omega, hc92, ?_, HB9.out⟩
  have h := HO9.out
  simpa [HM.out] using h
set_option maxHeartbeats 8000000 in
set_option maxRecDepth 100000 in
theorem does_bin8 (A : Option Addr) (c : Nat) (cells : List CellD) (n a0 a1 : Int) (a : Nat) (w : World) (hr : Row w w.heap.size 6 A cells.length (cellRow cells)) (S : Option Addr) (cs m : Nat) (base : List Int) (aa b : Int) (hs : Row w w.heap.size 1 S (m + 2) ((base ++ [aa, b]).map (Value.int .i64))) (hm : base.length = m) (hsc : m + 2 ≤ cs) (hm8 : m + 1 ≤ 8) (hk : kindE 8 aa b = 0) :
    Calls Tryd.prog 64 #[.slice A cells.length c, .agg #[.int .i64 a0, .int .i64 a1, .int .i64 8, .int .i64 a, .int .i64 n], .slice S (m + 2) cs] w (DoesBack w (base ++ [kindM 8 aa b])) := by
  obtain ⟨i0, hi, hz0, hz1, hz2⟩ := info_parts rcInfo
  have t27 := rcTy
  have HB0 := Lib.hid (show Below w.heap.size w (w.alloc (.cells #[.int .i64 a0, .int .i64 a1, .int .i64 8, .int .i64 a, .int .i64 n] 67)) from (Below.refl _ w).alloc (Nat.le_refl _) _)
  have TK := Lib.hid (fun u => show Calls Tryd.prog 76 #[.int .i64 8] u fun e w' => e = .returned (.int .i64 2) ∧ u = w' from rtakes_any 8 u)
  have HROW := Lib.hid (row_take hs hm)
  have HM := Lib.hid hm
  have hk1 : (m : Int) + 2 ≤ cs := by omega
  have hk2 : decide ((8 : Int) < (m : Int) + 1) = false := decide_eq_false (by omega)
  have hk3 : decide (8 < m + 1) = false := decide_eq_false (by omega)
  have hk4 : (m : Int) ≤ 8 := by omega
  have hk7 : (m : Int) + 2 - 1 = m + 1 := by omega
  have hk8 : (m : Int) + 2 - 2 = m := by omega
  have hk9 : ((m : Int) + 1).toNat = m + 1 := by omega
  obtain ⟨sb, so, hS, hsb, ea⟩ := row_top (j := 0) hs hm (by decide) rfl
  rw [Nat.add_zero] at ea
  obtain ⟨sb', so', hS', _, eb⟩ := row_top (j := 1) hs hm (by decide) rfl
  rw [Nat.add_assoc] at eb
  obtain ⟨rfl, rfl⟩ : sb = sb' ∧ so = so' := by rw [hS] at hS'; injection hS' with e; injection e with e1 e2; exact ⟨e1, e2⟩
  subst hS
  have KD := fun u => rkind_8 aa b u
  rw [hk] at KD
  generalize kindM 8 aa b = kv at *
  have HKD := Lib.hid KD
  clear KD hk
  clear hs hm hr
  go_enter Tryd.func64, Tryd.ntmps64
  go_wp2_with (first | (go_at_call 76; refine (TK.out _).mono ?_; rintro e _ ⟨rfl, rfl⟩) | (at_builtin; refine wpList_append_row _ rfl _ _ 22 rfl w.heap.size 3 i0 _ 1 8 t27 hi hz0 hz1 hz2 rfl (by decide) _ 0 [] rfl ?qo w.heap.size (some ⟨sb, so, none⟩) m cs (base.map (Value.int .i64)) rfl ?qr ?q1 ?q4 ?q5 ?q6 ?_))
  case qo =>
    have h := World.ownsRow_made (base := w.heap.size) (e := 3) (size := 1) (w.alloc (.cells #[.int .i64 a0, .int .i64 a1, .int .i64 8, .int .i64 a, .int .i64 n] 67)) #[] 0 (by simp) (Nat.zero_le _) rfl
    have h' : ((w.alloc (.cells #[.int .i64 a0, .int .i64 a1, .int .i64 8, .int .i64 a, .int .i64 n] 67)).alloc (.cells #[] 3)).ownsRow w.heap.size 3 1 (.slice (some ⟨w.heap.size + 1, 0, none⟩) 0 0) 0 [] := by simpa using h
    exact h'
  case qr => exact (HROW.out.alloc (Nat.le_refl _) _).alloc (by simp) _
  case q1 => intro u hu; obtain ⟨x, _, rfl⟩ := List.mem_map.1 hu; rfl
  case q4 => unfold maxLen; omega
  case q5 => omega
  case q6 => first | omega | (simp; done) | (simp; omega)
  intro v1 w1 hown hgrow hat
  have hb1 : Below w.heap.size w w1 := ((HB0.out).alloc (by simp) _).grown hgrow (by simp; omega) (by intro k hk; simp [Value.ownBlock] at hk; omega)
  have hown' : w1.ownsRow w.heap.size 3 1 v1 m (base.map (Value.int .i64)) := by simpa using hown
  obtain ⟨b0, b3, b2, b1, b4⟩ := op_kept (by simp [Value.ownBlock]) hgrow
  have hz1w := hb1.size
  have HO1 := Lib.hid hown'
  have HB1 := Lib.hid hb1
  clear hown hown' hgrow hat hb1
  go_wp2_with (first | (go_at_call 42; refine (HKD.out _).mono ?_; rintro e _ ⟨rfl, rfl⟩) | (at_builtin; refine wpList_append_own _ rfl _ _ 22 rfl w.heap.size 3 i0 _ 1 8 t27 hi hz0 hz1 hz2 rfl (by decide) _ m (base.map (Value.int .i64)) rfl (HO1.out.alloc _) ⟨_, 0, none⟩ 1 1 [.int .i64 kv] rfl ?p1 ?p2 ?p3 ?p4 ?p5 ?p6 ?_))
  case p1 => rfl
  case p2 =>
    intro i u hj
    rw [Addr.add_lit]
    have hj' : i < 1 := by have := (List.getElem?_eq_some_iff.1 hj).1; simpa using this
    rcases (show i = 0 by omega) with rfl <;> (simp at hj; subst hj; go_simp)
  case p3 => intro u hu; simp at hu; subst hu; rfl
  case p4 => unfold maxLen; omega
  case p5 => omega
  case p6 => first | omega | (simp; done) | (simp; omega)
  intro v9 w9 hown hgrow hat
  obtain ⟨R9, c9, hR9, hc91, hc92⟩ := own_slice hown
  subst hR9
  unfold maxLen at hc92
  have HO9 := Lib.hid hown
  have HB9 := Lib.hid (show Below w.heap.size w w9 from ((HB1.out).alloc hz1w _).grown hgrow (by first | omega | (simp; done) | (simp; omega)) (fun k hk => (HO1.out.lt k hk).1))
  clear hown hgrow hat
  go_wp2
  go_ret2
  refine ⟨R9, c9, by simp [HM.out], by simp [HM.out]; omega, hc92, ?_, HB9.out⟩
  have h := HO9.out
  simpa [HM.out] using h
set_option maxHeartbeats 8000000 in
set_option maxRecDepth 100000 in
theorem does_bin9 (A : Option Addr) (c : Nat) (cells : List CellD) (n a0 a1 : Int) (a : Nat) (w : World) (hr : Row w w.heap.size 6 A cells.length (cellRow cells)) (S : Option Addr) (cs m : Nat) (base : List Int) (aa b : Int) (hs : Row w w.heap.size 1 S (m + 2) ((base ++ [aa, b]).map (Value.int .i64))) (hm : base.length = m) (hsc : m + 2 ≤ cs) (hm8 : m + 1 ≤ 8) (hk : kindE 9 aa b = 0) :
    Calls Tryd.prog 64 #[.slice A cells.length c, .agg #[.int .i64 a0, .int .i64 a1, .int .i64 9, .int .i64 a, .int .i64 n], .slice S (m + 2) cs] w (DoesBack w (base ++ [kindM 9 aa b])) := by
  obtain ⟨i0, hi, hz0, hz1, hz2⟩ := info_parts rcInfo
  have t27 := rcTy
  have HB0 := Lib.hid (show Below w.heap.size w (w.alloc (.cells #[.int .i64 a0, .int .i64 a1, .int .i64 9, .int .i64 a, .int .i64 n] 67)) from (Below.refl _ w).alloc (Nat.le_refl _) _)
  have TK := Lib.hid (fun u => show Calls Tryd.prog 76 #[.int .i64 9] u fun e w' => e = .returned (.int .i64 2) ∧ u = w' from rtakes_any 9 u)
  have HROW := Lib.hid (row_take hs hm)
  have HM := Lib.hid hm
  have hk1 : (m : Int) + 2 ≤ cs := by omega
  have hk2 : decide ((8 : Int) < (m : Int) + 1) = false := decide_eq_false (by omega)
  have hk3 : decide (8 < m + 1) = false := decide_eq_false (by omega)
  have hk4 : (m : Int) ≤ 8 := by omega
  have hk7 : (m : Int) + 2 - 1 = m + 1 := by omega
  have hk8 : (m : Int) + 2 - 2 = m := by omega
  have hk9 : ((m : Int) + 1).toNat = m + 1 := by omega
  obtain ⟨sb, so, hS, hsb, ea⟩ := row_top (j := 0) hs hm (by decide) rfl
  rw [Nat.add_zero] at ea
  obtain ⟨sb', so', hS', _, eb⟩ := row_top (j := 1) hs hm (by decide) rfl
  rw [Nat.add_assoc] at eb
  obtain ⟨rfl, rfl⟩ : sb = sb' ∧ so = so' := by rw [hS] at hS'; injection hS' with e; injection e with e1 e2; exact ⟨e1, e2⟩
  subst hS
  have KD := fun u => rkind_9 aa b u
  rw [hk] at KD
  generalize kindM 9 aa b = kv at *
  have HKD := Lib.hid KD
  clear KD hk
  clear hs hm hr
  go_enter Tryd.func64, Tryd.ntmps64
  go_wp2_with (first | (go_at_call 76; refine (TK.out _).mono ?_; rintro e _ ⟨rfl, rfl⟩) | (at_builtin; refine wpList_append_row _ rfl _ _ 22 rfl w.heap.size 3 i0 _ 1 8 t27 hi hz0 hz1 hz2 rfl (by decide) _ 0 [] rfl ?qo w.heap.size (some ⟨sb, so, none⟩) m cs (base.map (Value.int .i64)) rfl ?qr ?q1 ?q4 ?q5 ?q6 ?_))
  case qo =>
    have h := World.ownsRow_made (base := w.heap.size) (e := 3) (size := 1) (w.alloc (.cells #[.int .i64 a0, .int .i64 a1, .int .i64 9, .int .i64 a, .int .i64 n] 67)) #[] 0 (by simp) (Nat.zero_le _) rfl
    have h' : ((w.alloc (.cells #[.int .i64 a0, .int .i64 a1, .int .i64 9, .int .i64 a, .int .i64 n] 67)).alloc (.cells #[] 3)).ownsRow w.heap.size 3 1 (.slice (some ⟨w.heap.size + 1, 0, none⟩) 0 0) 0 [] := by simpa using h
    exact h'
  case qr => exact (HROW.out.alloc (Nat.le_refl _) _).alloc (by simp) _
  case q1 => intro u hu; obtain ⟨x, _, rfl⟩ := List.mem_map.1 hu; rfl
  case q4 => unfold maxLen; omega
  case q5 => omega
  case q6 => first | omega | (simp; done) | (simp; omega)
  intro v1 w1 hown hgrow hat
  have hb1 : Below w.heap.size w w1 := ((HB0.out).alloc (by simp) _).grown hgrow (by simp; omega) (by intro k hk; simp [Value.ownBlock] at hk; omega)
  have hown' : w1.ownsRow w.heap.size 3 1 v1 m (base.map (Value.int .i64)) := by simpa using hown
  obtain ⟨b0, b3, b2, b1, b4⟩ := op_kept (by simp [Value.ownBlock]) hgrow
  have hz1w := hb1.size
  have HO1 := Lib.hid hown'
  have HB1 := Lib.hid hb1
  clear hown hown' hgrow hat hb1
  go_wp2_with (first | (go_at_call 42; refine (HKD.out _).mono ?_; rintro e _ ⟨rfl, rfl⟩) | (at_builtin; refine wpList_append_own _ rfl _ _ 22 rfl w.heap.size 3 i0 _ 1 8 t27 hi hz0 hz1 hz2 rfl (by decide) _ m (base.map (Value.int .i64)) rfl (HO1.out.alloc _) ⟨_, 0, none⟩ 1 1 [.int .i64 kv] rfl ?p1 ?p2 ?p3 ?p4 ?p5 ?p6 ?_))
  case p1 => rfl
  case p2 =>
    intro i u hj
    rw [Addr.add_lit]
    have hj' : i < 1 := by have := (List.getElem?_eq_some_iff.1 hj).1; simpa using this
    rcases (show i = 0 by omega) with rfl <;> (simp at hj; subst hj; go_simp)
  case p3 => intro u hu; simp at hu; subst hu; rfl
  case p4 => unfold maxLen; omega
  case p5 => omega
  case p6 => first | omega | (simp; done) | (simp; omega)
  intro v9 w9 hown hgrow hat
  obtain ⟨R9, c9, hR9, hc91, hc92⟩ := own_slice hown
  subst hR9
  unfold maxLen at hc92
  have HO9 := Lib.hid hown
  have HB9 := Lib.hid (show Below w.heap.size w w9 from ((HB1.out).alloc hz1w _).grown hgrow (by first | omega | (simp; done) | (simp; omega)) (fun k hk => (HO1.out.lt k hk).1))
  clear hown hgrow hat
  go_wp2
  go_ret2
  refine ⟨R9, c9, by simp [HM.out], by simp [HM.out]; omega, hc92, ?_, HB9.out⟩
  have h := HO9.out
  simpa [HM.out] using h
set_option maxHeartbeats 8000000 in
set_option maxRecDepth 100000 in
theorem does_bin10 (A : Option Addr) (c : Nat) (cells : List CellD) (n a0 a1 : Int) (a : Nat) (w : World) (hr : Row w w.heap.size 6 A cells.length (cellRow cells)) (S : Option Addr) (cs m : Nat) (base : List Int) (aa b : Int) (hs : Row w w.heap.size 1 S (m + 2) ((base ++ [aa, b]).map (Value.int .i64))) (hm : base.length = m) (hsc : m + 2 ≤ cs) (hm8 : m + 1 ≤ 8) (hk : kindE 10 aa b = 0) :
    Calls Tryd.prog 64 #[.slice A cells.length c, .agg #[.int .i64 a0, .int .i64 a1, .int .i64 10, .int .i64 a, .int .i64 n], .slice S (m + 2) cs] w (DoesBack w (base ++ [kindM 10 aa b])) := by
  obtain ⟨i0, hi, hz0, hz1, hz2⟩ := info_parts rcInfo
  have t27 := rcTy
  have HB0 := Lib.hid (show Below w.heap.size w (w.alloc (.cells #[.int .i64 a0, .int .i64 a1, .int .i64 10, .int .i64 a, .int .i64 n] 67)) from (Below.refl _ w).alloc (Nat.le_refl _) _)
  have TK := Lib.hid (fun u => show Calls Tryd.prog 76 #[.int .i64 10] u fun e w' => e = .returned (.int .i64 2) ∧ u = w' from rtakes_any 10 u)
  have HROW := Lib.hid (row_take hs hm)
  have HM := Lib.hid hm
  have hk1 : (m : Int) + 2 ≤ cs := by omega
  have hk2 : decide ((8 : Int) < (m : Int) + 1) = false := decide_eq_false (by omega)
  have hk3 : decide (8 < m + 1) = false := decide_eq_false (by omega)
  have hk4 : (m : Int) ≤ 8 := by omega
  have hk7 : (m : Int) + 2 - 1 = m + 1 := by omega
  have hk8 : (m : Int) + 2 - 2 = m := by omega
  have hk9 : ((m : Int) + 1).toNat = m + 1 := by omega
  obtain ⟨sb, so, hS, hsb, ea⟩ := row_top (j := 0) hs hm (by decide) rfl
  rw [Nat.add_zero] at ea
  obtain ⟨sb', so', hS', _, eb⟩ := row_top (j := 1) hs hm (by decide) rfl
  rw [Nat.add_assoc] at eb
  obtain ⟨rfl, rfl⟩ : sb = sb' ∧ so = so' := by rw [hS] at hS'; injection hS' with e; injection e with e1 e2; exact ⟨e1, e2⟩
  subst hS
  have KD := fun u => rkind_10 aa b u
  rw [hk] at KD
  generalize kindM 10 aa b = kv at *
  have HKD := Lib.hid KD
  clear KD hk
  clear hs hm hr
  go_enter Tryd.func64, Tryd.ntmps64
  go_wp2_with (first | (go_at_call 76; refine (TK.out _).mono ?_; rintro e _ ⟨rfl, rfl⟩) | (at_builtin; refine wpList_append_row _ rfl _ _ 22 rfl w.heap.size 3 i0 _ 1 8 t27 hi hz0 hz1 hz2 rfl (by decide) _ 0 [] rfl ?qo w.heap.size (some ⟨sb, so, none⟩) m cs (base.map (Value.int .i64)) rfl ?qr ?q1 ?q4 ?q5 ?q6 ?_))
  case qo =>
    have h := World.ownsRow_made (base := w.heap.size) (e := 3) (size := 1) (w.alloc (.cells #[.int .i64 a0, .int .i64 a1, .int .i64 10, .int .i64 a, .int .i64 n] 67)) #[] 0 (by simp) (Nat.zero_le _) rfl
    have h' : ((w.alloc (.cells #[.int .i64 a0, .int .i64 a1, .int .i64 10, .int .i64 a, .int .i64 n] 67)).alloc (.cells #[] 3)).ownsRow w.heap.size 3 1 (.slice (some ⟨w.heap.size + 1, 0, none⟩) 0 0) 0 [] := by simpa using h
    exact h'
  case qr => exact (HROW.out.alloc (Nat.le_refl _) _).alloc (by simp) _
  case q1 => intro u hu; obtain ⟨x, _, rfl⟩ := List.mem_map.1 hu; rfl
  case q4 => unfold maxLen; omega
  case q5 => omega
  case q6 => first | omega | (simp; done) | (simp; omega)
  intro v1 w1 hown hgrow hat
  have hb1 : Below w.heap.size w w1 := ((HB0.out).alloc (by simp) _).grown hgrow (by simp; omega) (by intro k hk; simp [Value.ownBlock] at hk; omega)
  have hown' : w1.ownsRow w.heap.size 3 1 v1 m (base.map (Value.int .i64)) := by simpa using hown
  obtain ⟨b0, b3, b2, b1, b4⟩ := op_kept (by simp [Value.ownBlock]) hgrow
  have hz1w := hb1.size
  have HO1 := Lib.hid hown'
  have HB1 := Lib.hid hb1
  clear hown hown' hgrow hat hb1
  go_wp2_with (first | (go_at_call 42; refine (HKD.out _).mono ?_; rintro e _ ⟨rfl, rfl⟩) | (at_builtin; refine wpList_append_own _ rfl _ _ 22 rfl w.heap.size 3 i0 _ 1 8 t27 hi hz0 hz1 hz2 rfl (by decide) _ m (base.map (Value.int .i64)) rfl (HO1.out.alloc _) ⟨_, 0, none⟩ 1 1 [.int .i64 kv] rfl ?p1 ?p2 ?p3 ?p4 ?p5 ?p6 ?_))
  case p1 => rfl
  case p2 =>
    intro i u hj
    rw [Addr.add_lit]
    have hj' : i < 1 := by have := (List.getElem?_eq_some_iff.1 hj).1; simpa using this
    rcases (show i = 0 by omega) with rfl <;> (simp at hj; subst hj; go_simp)
  case p3 => intro u hu; simp at hu; subst hu; rfl
  case p4 => unfold maxLen; omega
  case p5 => omega
  case p6 => first | omega | (simp; done) | (simp; omega)
  intro v9 w9 hown hgrow hat
  obtain ⟨R9, c9, hR9, hc91, hc92⟩ := own_slice hown
  subst hR9
  unfold maxLen at hc92
  have HO9 := Lib.hid hown
  have HB9 := Lib.hid (show Below w.heap.size w w9 from ((HB1.out).alloc hz1w _).grown hgrow (by first | omega | (simp; done) | (simp; omega)) (fun k hk => (HO1.out.lt k hk).1))
  clear hown hgrow hat
  go_wp2
  go_ret2
  refine ⟨R9, c9, by simp [HM.out], by simp [HM.out]; omega, hc92, ?_, HB9.out⟩
  have h := HO9.out
  simpa [HM.out] using h
set_option maxHeartbeats 8000000 in
set_option maxRecDepth 100000 in
theorem does_bin11 (A : Option Addr) (c : Nat) (cells : List CellD) (n a0 a1 : Int) (a : Nat) (w : World) (hr : Row w w.heap.size 6 A cells.length (cellRow cells)) (S : Option Addr) (cs m : Nat) (base : List Int) (aa b : Int) (hs : Row w w.heap.size 1 S (m + 2) ((base ++ [aa, b]).map (Value.int .i64))) (hm : base.length = m) (hsc : m + 2 ≤ cs) (hm8 : m + 1 ≤ 8) (hk : kindE 11 aa b = 0) :
    Calls Tryd.prog 64 #[.slice A cells.length c, .agg #[.int .i64 a0, .int .i64 a1, .int .i64 11, .int .i64 a, .int .i64 n], .slice S (m + 2) cs] w (DoesBack w (base ++ [kindM 11 aa b])) := by
  obtain ⟨i0, hi, hz0, hz1, hz2⟩ := info_parts rcInfo
  have t27 := rcTy
  have HB0 := Lib.hid (show Below w.heap.size w (w.alloc (.cells #[.int .i64 a0, .int .i64 a1, .int .i64 11, .int .i64 a, .int .i64 n] 67)) from (Below.refl _ w).alloc (Nat.le_refl _) _)
  have TK := Lib.hid (fun u => show Calls Tryd.prog 76 #[.int .i64 11] u fun e w' => e = .returned (.int .i64 2) ∧ u = w' from rtakes_any 11 u)
  have HROW := Lib.hid (row_take hs hm)
  have HM := Lib.hid hm
  have hk1 : (m : Int) + 2 ≤ cs := by omega
  have hk2 : decide ((8 : Int) < (m : Int) + 1) = false := decide_eq_false (by omega)
  have hk3 : decide (8 < m + 1) = false := decide_eq_false (by omega)
  have hk4 : (m : Int) ≤ 8 := by omega
  have hk7 : (m : Int) + 2 - 1 = m + 1 := by omega
  have hk8 : (m : Int) + 2 - 2 = m := by omega
  have hk9 : ((m : Int) + 1).toNat = m + 1 := by omega
  obtain ⟨sb, so, hS, hsb, ea⟩ := row_top (j := 0) hs hm (by decide) rfl
  rw [Nat.add_zero] at ea
  obtain ⟨sb', so', hS', _, eb⟩ := row_top (j := 1) hs hm (by decide) rfl
  rw [Nat.add_assoc] at eb
  obtain ⟨rfl, rfl⟩ : sb = sb' ∧ so = so' := by rw [hS] at hS'; injection hS' with e; injection e with e1 e2; exact ⟨e1, e2⟩
  subst hS
  have KD := fun u => rkind_11 aa b u
  rw [hk] at KD
  generalize kindM 11 aa b = kv at *
  have HKD := Lib.hid KD
  clear KD hk
  clear hs hm hr
  go_enter Tryd.func64, Tryd.ntmps64
  go_wp2_with (first | (go_at_call 76; refine (TK.out _).mono ?_; rintro e _ ⟨rfl, rfl⟩) | (at_builtin; refine wpList_append_row _ rfl _ _ 22 rfl w.heap.size 3 i0 _ 1 8 t27 hi hz0 hz1 hz2 rfl (by decide) _ 0 [] rfl ?qo w.heap.size (some ⟨sb, so, none⟩) m cs (base.map (Value.int .i64)) rfl ?qr ?q1 ?q4 ?q5 ?q6 ?_))
  case qo =>
    have h := World.ownsRow_made (base := w.heap.size) (e := 3) (size := 1) (w.alloc (.cells #[.int .i64 a0, .int .i64 a1, .int .i64 11, .int .i64 a, .int .i64 n] 67)) #[] 0 (by simp) (Nat.zero_le _) rfl
    have h' : ((w.alloc (.cells #[.int .i64 a0, .int .i64 a1, .int .i64 11, .int .i64 a, .int .i64 n] 67)).alloc (.cells #[] 3)).ownsRow w.heap.size 3 1 (.slice (some ⟨w.heap.size + 1, 0, none⟩) 0 0) 0 [] := by simpa using h
    exact h'
  case qr => exact (HROW.out.alloc (Nat.le_refl _) _).alloc (by simp) _
  case q1 => intro u hu; obtain ⟨x, _, rfl⟩ := List.mem_map.1 hu; rfl
  case q4 => unfold maxLen; omega
  case q5 => omega
  case q6 => first | omega | (simp; done) | (simp; omega)
  intro v1 w1 hown hgrow hat
  have hb1 : Below w.heap.size w w1 := ((HB0.out).alloc (by simp) _).grown hgrow (by simp; omega) (by intro k hk; simp [Value.ownBlock] at hk; omega)
  have hown' : w1.ownsRow w.heap.size 3 1 v1 m (base.map (Value.int .i64)) := by simpa using hown
  obtain ⟨b0, b3, b2, b1, b4⟩ := op_kept (by simp [Value.ownBlock]) hgrow
  have hz1w := hb1.size
  have HO1 := Lib.hid hown'
  have HB1 := Lib.hid hb1
  clear hown hown' hgrow hat hb1
  go_wp2_with (first | (go_at_call 42; refine (HKD.out _).mono ?_; rintro e _ ⟨rfl, rfl⟩) | (at_builtin; refine wpList_append_own _ rfl _ _ 22 rfl w.heap.size 3 i0 _ 1 8 t27 hi hz0 hz1 hz2 rfl (by decide) _ m (base.map (Value.int .i64)) rfl (HO1.out.alloc _) ⟨_, 0, none⟩ 1 1 [.int .i64 kv] rfl ?p1 ?p2 ?p3 ?p4 ?p5 ?p6 ?_))
  case p1 => rfl
  case p2 =>
    intro i u hj
    rw [Addr.add_lit]
    have hj' : i < 1 := by have := (List.getElem?_eq_some_iff.1 hj).1; simpa using this
    rcases (show i = 0 by omega) with rfl <;> (simp at hj; subst hj; go_simp)
  case p3 => intro u hu; simp at hu; subst hu; rfl
  case p4 => unfold maxLen; omega
  case p5 => omega
  case p6 => first | omega | (simp; done) | (simp; omega)
  intro v9 w9 hown hgrow hat
  obtain ⟨R9, c9, hR9, hc91, hc92⟩ := own_slice hown
  subst hR9
  unfold maxLen at hc92
  have HO9 := Lib.hid hown
  have HB9 := Lib.hid (show Below w.heap.size w w9 from ((HB1.out).alloc hz1w _).grown hgrow (by first | omega | (simp; done) | (simp; omega)) (fun k hk => (HO1.out.lt k hk).1))
  clear hown hgrow hat
  go_wp2
  go_ret2
  refine ⟨R9, c9, by simp [HM.out], by simp [HM.out]; omega, hc92, ?_, HB9.out⟩
  have h := HO9.out
  simpa [HM.out] using h
set_option maxHeartbeats 8000000 in
set_option maxRecDepth 100000 in
theorem does_bin12 (A : Option Addr) (c : Nat) (cells : List CellD) (n a0 a1 : Int) (a : Nat) (w : World) (hr : Row w w.heap.size 6 A cells.length (cellRow cells)) (S : Option Addr) (cs m : Nat) (base : List Int) (aa b : Int) (hs : Row w w.heap.size 1 S (m + 2) ((base ++ [aa, b]).map (Value.int .i64))) (hm : base.length = m) (hsc : m + 2 ≤ cs) (hm8 : m + 1 ≤ 8) (hk : kindE 12 aa b = 0) :
    Calls Tryd.prog 64 #[.slice A cells.length c, .agg #[.int .i64 a0, .int .i64 a1, .int .i64 12, .int .i64 a, .int .i64 n], .slice S (m + 2) cs] w (DoesBack w (base ++ [kindM 12 aa b])) := by
  obtain ⟨i0, hi, hz0, hz1, hz2⟩ := info_parts rcInfo
  have t27 := rcTy
  have HB0 := Lib.hid (show Below w.heap.size w (w.alloc (.cells #[.int .i64 a0, .int .i64 a1, .int .i64 12, .int .i64 a, .int .i64 n] 67)) from (Below.refl _ w).alloc (Nat.le_refl _) _)
  have TK := Lib.hid (fun u => show Calls Tryd.prog 76 #[.int .i64 12] u fun e w' => e = .returned (.int .i64 2) ∧ u = w' from rtakes_any 12 u)
  have HROW := Lib.hid (row_take hs hm)
  have HM := Lib.hid hm
  have hk1 : (m : Int) + 2 ≤ cs := by omega
  have hk2 : decide ((8 : Int) < (m : Int) + 1) = false := decide_eq_false (by omega)
  have hk3 : decide (8 < m + 1) = false := decide_eq_false (by omega)
  have hk4 : (m : Int) ≤ 8 := by omega
  have hk7 : (m : Int) + 2 - 1 = m + 1 := by omega
  have hk8 : (m : Int) + 2 - 2 = m := by omega
  have hk9 : ((m : Int) + 1).toNat = m + 1 := by omega
  obtain ⟨sb, so, hS, hsb, ea⟩ := row_top (j := 0) hs hm (by decide) rfl
  rw [Nat.add_zero] at ea
  obtain ⟨sb', so', hS', _, eb⟩ := row_top (j := 1) hs hm (by decide) rfl
  rw [Nat.add_assoc] at eb
  obtain ⟨rfl, rfl⟩ : sb = sb' ∧ so = so' := by rw [hS] at hS'; injection hS' with e; injection e with e1 e2; exact ⟨e1, e2⟩
  subst hS
  have KD := fun u => rkind_12 aa b u
  rw [hk] at KD
  generalize kindM 12 aa b = kv at *
  have HKD := Lib.hid KD
  clear KD hk
  clear hs hm hr
  go_enter Tryd.func64, Tryd.ntmps64
  go_wp2_with (first | (go_at_call 76; refine (TK.out _).mono ?_; rintro e _ ⟨rfl, rfl⟩) | (at_builtin; refine wpList_append_row _ rfl _ _ 22 rfl w.heap.size 3 i0 _ 1 8 t27 hi hz0 hz1 hz2 rfl (by decide) _ 0 [] rfl ?qo w.heap.size (some ⟨sb, so, none⟩) m cs (base.map (Value.int .i64)) rfl ?qr ?q1 ?q4 ?q5 ?q6 ?_))
  case qo =>
    have h := World.ownsRow_made (base := w.heap.size) (e := 3) (size := 1) (w.alloc (.cells #[.int .i64 a0, .int .i64 a1, .int .i64 12, .int .i64 a, .int .i64 n] 67)) #[] 0 (by simp) (Nat.zero_le _) rfl
    have h' : ((w.alloc (.cells #[.int .i64 a0, .int .i64 a1, .int .i64 12, .int .i64 a, .int .i64 n] 67)).alloc (.cells #[] 3)).ownsRow w.heap.size 3 1 (.slice (some ⟨w.heap.size + 1, 0, none⟩) 0 0) 0 [] := by simpa using h
    exact h'
  case qr => exact (HROW.out.alloc (Nat.le_refl _) _).alloc (by simp) _
  case q1 => intro u hu; obtain ⟨x, _, rfl⟩ := List.mem_map.1 hu; rfl
  case q4 => unfold maxLen; omega
  case q5 => omega
  case q6 => first | omega | (simp; done) | (simp; omega)
  intro v1 w1 hown hgrow hat
  have hb1 : Below w.heap.size w w1 := ((HB0.out).alloc (by simp) _).grown hgrow (by simp; omega) (by intro k hk; simp [Value.ownBlock] at hk; omega)
  have hown' : w1.ownsRow w.heap.size 3 1 v1 m (base.map (Value.int .i64)) := by simpa using hown
  obtain ⟨b0, b3, b2, b1, b4⟩ := op_kept (by simp [Value.ownBlock]) hgrow
  have hz1w := hb1.size
  have HO1 := Lib.hid hown'
  have HB1 := Lib.hid hb1
  clear hown hown' hgrow hat hb1
  go_wp2_with (first | (go_at_call 42; refine (HKD.out _).mono ?_; rintro e _ ⟨rfl, rfl⟩) | (at_builtin; refine wpList_append_own _ rfl _ _ 22 rfl w.heap.size 3 i0 _ 1 8 t27 hi hz0 hz1 hz2 rfl (by decide) _ m (base.map (Value.int .i64)) rfl (HO1.out.alloc _) ⟨_, 0, none⟩ 1 1 [.int .i64 kv] rfl ?p1 ?p2 ?p3 ?p4 ?p5 ?p6 ?_))
  case p1 => rfl
  case p2 =>
    intro i u hj
    rw [Addr.add_lit]
    have hj' : i < 1 := by have := (List.getElem?_eq_some_iff.1 hj).1; simpa using this
    rcases (show i = 0 by omega) with rfl <;> (simp at hj; subst hj; go_simp)
  case p3 => intro u hu; simp at hu; subst hu; rfl
  case p4 => unfold maxLen; omega
  case p5 => omega
  case p6 => first | omega | (simp; done) | (simp; omega)
  intro v9 w9 hown hgrow hat
  obtain ⟨R9, c9, hR9, hc91, hc92⟩ := own_slice hown
  subst hR9
  unfold maxLen at hc92
  have HO9 := Lib.hid hown
  have HB9 := Lib.hid (show Below w.heap.size w w9 from ((HB1.out).alloc hz1w _).grown hgrow (by first | omega | (simp; done) | (simp; omega)) (fun k hk => (HO1.out.lt k hk).1))
  clear hown hgrow hat
  go_wp2
  go_ret2
  refine ⟨R9, c9, by simp [HM.out], by simp [HM.out]; omega, hc92, ?_, HB9.out⟩
  have h := HO9.out
  simpa [HM.out] using h
set_option maxHeartbeats 8000000 in
set_option maxRecDepth 100000 in
theorem does_bin13 (A : Option Addr) (c : Nat) (cells : List CellD) (n a0 a1 : Int) (a : Nat) (w : World) (hr : Row w w.heap.size 6 A cells.length (cellRow cells)) (S : Option Addr) (cs m : Nat) (base : List Int) (aa b : Int) (hs : Row w w.heap.size 1 S (m + 2) ((base ++ [aa, b]).map (Value.int .i64))) (hm : base.length = m) (hsc : m + 2 ≤ cs) (hm8 : m + 1 ≤ 8) (hk : kindE 13 aa b = 0) :
    Calls Tryd.prog 64 #[.slice A cells.length c, .agg #[.int .i64 a0, .int .i64 a1, .int .i64 13, .int .i64 a, .int .i64 n], .slice S (m + 2) cs] w (DoesBack w (base ++ [kindM 13 aa b])) := by
  obtain ⟨i0, hi, hz0, hz1, hz2⟩ := info_parts rcInfo
  have t27 := rcTy
  have HB0 := Lib.hid (show Below w.heap.size w (w.alloc (.cells #[.int .i64 a0, .int .i64 a1, .int .i64 13, .int .i64 a, .int .i64 n] 67)) from (Below.refl _ w).alloc (Nat.le_refl _) _)
  have TK := Lib.hid (fun u => show Calls Tryd.prog 76 #[.int .i64 13] u fun e w' => e = .returned (.int .i64 2) ∧ u = w' from rtakes_any 13 u)
  have HROW := Lib.hid (row_take hs hm)
  have HM := Lib.hid hm
  have hk1 : (m : Int) + 2 ≤ cs := by omega
  have hk2 : decide ((8 : Int) < (m : Int) + 1) = false := decide_eq_false (by omega)
  have hk3 : decide (8 < m + 1) = false := decide_eq_false (by omega)
  have hk4 : (m : Int) ≤ 8 := by omega
  have hk7 : (m : Int) + 2 - 1 = m + 1 := by omega
  have hk8 : (m : Int) + 2 - 2 = m := by omega
  have hk9 : ((m : Int) + 1).toNat = m + 1 := by omega
  obtain ⟨sb, so, hS, hsb, ea⟩ := row_top (j := 0) hs hm (by decide) rfl
  rw [Nat.add_zero] at ea
  obtain ⟨sb', so', hS', _, eb⟩ := row_top (j := 1) hs hm (by decide) rfl
  rw [Nat.add_assoc] at eb
  obtain ⟨rfl, rfl⟩ : sb = sb' ∧ so = so' := by rw [hS] at hS'; injection hS' with e; injection e with e1 e2; exact ⟨e1, e2⟩
  subst hS
  have KD := fun u => rkind_13 aa b u
  rw [hk] at KD
  generalize kindM 13 aa b = kv at *
  have HKD := Lib.hid KD
  clear KD hk
  clear hs hm hr
  go_enter Tryd.func64, Tryd.ntmps64
  go_wp2_with (first | (go_at_call 76; refine (TK.out _).mono ?_; rintro e _ ⟨rfl, rfl⟩) | (at_builtin; refine wpList_append_row _ rfl _ _ 22 rfl w.heap.size 3 i0 _ 1 8 t27 hi hz0 hz1 hz2 rfl (by decide) _ 0 [] rfl ?qo w.heap.size (some ⟨sb, so, none⟩) m cs (base.map (Value.int .i64)) rfl ?qr ?q1 ?q4 ?q5 ?q6 ?_))
  case qo =>
    have h := World.ownsRow_made (base := w.heap.size) (e := 3) (size := 1) (w.alloc (.cells #[.int .i64 a0, .int .i64 a1, .int .i64 13, .int .i64 a, .int .i64 n] 67)) #[] 0 (by simp) (Nat.zero_le _) rfl
    have h' : ((w.alloc (.cells #[.int .i64 a0, .int .i64 a1, .int .i64 13, .int .i64 a, .int .i64 n] 67)).alloc (.cells #[] 3)).ownsRow w.heap.size 3 1 (.slice (some ⟨w.heap.size + 1, 0, none⟩) 0 0) 0 [] := by simpa using h
    exact h'
  case qr => exact (HROW.out.alloc (Nat.le_refl _) _).alloc (by simp) _
  case q1 => intro u hu; obtain ⟨x, _, rfl⟩ := List.mem_map.1 hu; rfl
  case q4 => unfold maxLen; omega
  case q5 => omega
  case q6 => first | omega | (simp; done) | (simp; omega)
  intro v1 w1 hown hgrow hat
  have hb1 : Below w.heap.size w w1 := ((HB0.out).alloc (by simp) _).grown hgrow (by simp; omega) (by intro k hk; simp [Value.ownBlock] at hk; omega)
  have hown' : w1.ownsRow w.heap.size 3 1 v1 m (base.map (Value.int .i64)) := by simpa using hown
  obtain ⟨b0, b3, b2, b1, b4⟩ := op_kept (by simp [Value.ownBlock]) hgrow
  have hz1w := hb1.size
  have HO1 := Lib.hid hown'
  have HB1 := Lib.hid hb1
  clear hown hown' hgrow hat hb1
  go_wp2_with (first | (go_at_call 42; refine (HKD.out _).mono ?_; rintro e _ ⟨rfl, rfl⟩) | (at_builtin; refine wpList_append_own _ rfl _ _ 22 rfl w.heap.size 3 i0 _ 1 8 t27 hi hz0 hz1 hz2 rfl (by decide) _ m (base.map (Value.int .i64)) rfl (HO1.out.alloc _) ⟨_, 0, none⟩ 1 1 [.int .i64 kv] rfl ?p1 ?p2 ?p3 ?p4 ?p5 ?p6 ?_))
  case p1 => rfl
  case p2 =>
    intro i u hj
    rw [Addr.add_lit]
    have hj' : i < 1 := by have := (List.getElem?_eq_some_iff.1 hj).1; simpa using this
    rcases (show i = 0 by omega) with rfl <;> (simp at hj; subst hj; go_simp)
  case p3 => intro u hu; simp at hu; subst hu; rfl
  case p4 => unfold maxLen; omega
  case p5 => omega
  case p6 => first | omega | (simp; done) | (simp; omega)
  intro v9 w9 hown hgrow hat
  obtain ⟨R9, c9, hR9, hc91, hc92⟩ := own_slice hown
  subst hR9
  unfold maxLen at hc92
  have HO9 := Lib.hid hown
  have HB9 := Lib.hid (show Below w.heap.size w w9 from ((HB1.out).alloc hz1w _).grown hgrow (by first | omega | (simp; done) | (simp; omega)) (fun k hk => (HO1.out.lt k hk).1))
  clear hown hgrow hat
  go_wp2
  go_ret2
  refine ⟨R9, c9, by simp [HM.out], by simp [HM.out]; omega, hc92, ?_, HB9.out⟩
  have h := HO9.out
  simpa [HM.out] using h
set_option maxHeartbeats 8000000 in
set_option maxRecDepth 100000 in
theorem does_bin14 (A : Option Addr) (c : Nat) (cells : List CellD) (n a0 a1 : Int) (a : Nat) (w : World) (hr : Row w w.heap.size 6 A cells.length (cellRow cells)) (S : Option Addr) (cs m : Nat) (base : List Int) (aa b : Int) (hs : Row w w.heap.size 1 S (m + 2) ((base ++ [aa, b]).map (Value.int .i64))) (hm : base.length = m) (hsc : m + 2 ≤ cs) (hm8 : m + 1 ≤ 8) (hk : kindE 14 aa b = 0) :
    Calls Tryd.prog 64 #[.slice A cells.length c, .agg #[.int .i64 a0, .int .i64 a1, .int .i64 14, .int .i64 a, .int .i64 n], .slice S (m + 2) cs] w (DoesBack w (base ++ [kindM 14 aa b])) := by
  obtain ⟨i0, hi, hz0, hz1, hz2⟩ := info_parts rcInfo
  have t27 := rcTy
  have HB0 := Lib.hid (show Below w.heap.size w (w.alloc (.cells #[.int .i64 a0, .int .i64 a1, .int .i64 14, .int .i64 a, .int .i64 n] 67)) from (Below.refl _ w).alloc (Nat.le_refl _) _)
  have TK := Lib.hid (fun u => show Calls Tryd.prog 76 #[.int .i64 14] u fun e w' => e = .returned (.int .i64 2) ∧ u = w' from rtakes_any 14 u)
  have HROW := Lib.hid (row_take hs hm)
  have HM := Lib.hid hm
  have hk1 : (m : Int) + 2 ≤ cs := by omega
  have hk2 : decide ((8 : Int) < (m : Int) + 1) = false := decide_eq_false (by omega)
  have hk3 : decide (8 < m + 1) = false := decide_eq_false (by omega)
  have hk4 : (m : Int) ≤ 8 := by omega
  have hk7 : (m : Int) + 2 - 1 = m + 1 := by omega
  have hk8 : (m : Int) + 2 - 2 = m := by omega
  have hk9 : ((m : Int) + 1).toNat = m + 1 := by omega
  obtain ⟨sb, so, hS, hsb, ea⟩ := row_top (j := 0) hs hm (by decide) rfl
  rw [Nat.add_zero] at ea
  obtain ⟨sb', so', hS', _, eb⟩ := row_top (j := 1) hs hm (by decide) rfl
  rw [Nat.add_assoc] at eb
  obtain ⟨rfl, rfl⟩ : sb = sb' ∧ so = so' := by rw [hS] at hS'; injection hS' with e; injection e with e1 e2; exact ⟨e1, e2⟩
  subst hS
  have KD := fun u => rkind_14 aa b u
  rw [hk] at KD
  generalize kindM 14 aa b = kv at *
  have HKD := Lib.hid KD
  clear KD hk
  clear hs hm hr
  go_enter Tryd.func64, Tryd.ntmps64
  go_wp2_with (first | (go_at_call 76; refine (TK.out _).mono ?_; rintro e _ ⟨rfl, rfl⟩) | (at_builtin; refine wpList_append_row _ rfl _ _ 22 rfl w.heap.size 3 i0 _ 1 8 t27 hi hz0 hz1 hz2 rfl (by decide) _ 0 [] rfl ?qo w.heap.size (some ⟨sb, so, none⟩) m cs (base.map (Value.int .i64)) rfl ?qr ?q1 ?q4 ?q5 ?q6 ?_))
  case qo =>
    have h := World.ownsRow_made (base := w.heap.size) (e := 3) (size := 1) (w.alloc (.cells #[.int .i64 a0, .int .i64 a1, .int .i64 14, .int .i64 a, .int .i64 n] 67)) #[] 0 (by simp) (Nat.zero_le _) rfl
    have h' : ((w.alloc (.cells #[.int .i64 a0, .int .i64 a1, .int .i64 14, .int .i64 a, .int .i64 n] 67)).alloc (.cells #[] 3)).ownsRow w.heap.size 3 1 (.slice (some ⟨w.heap.size + 1, 0, none⟩) 0 0) 0 [] := by simpa using h
    exact h'
  case qr => exact (HROW.out.alloc (Nat.le_refl _) _).alloc (by simp) _
  case q1 => intro u hu; obtain ⟨x, _, rfl⟩ := List.mem_map.1 hu; rfl
  case q4 => unfold maxLen; omega
  case q5 => omega
  case q6 => first | omega | (simp; done) | (simp; omega)
  intro v1 w1 hown hgrow hat
  have hb1 : Below w.heap.size w w1 := ((HB0.out).alloc (by simp) _).grown hgrow (by simp; omega) (by intro k hk; simp [Value.ownBlock] at hk; omega)
  have hown' : w1.ownsRow w.heap.size 3 1 v1 m (base.map (Value.int .i64)) := by simpa using hown
  obtain ⟨b0, b3, b2, b1, b4⟩ := op_kept (by simp [Value.ownBlock]) hgrow
  have hz1w := hb1.size
  have HO1 := Lib.hid hown'
  have HB1 := Lib.hid hb1
  clear hown hown' hgrow hat hb1
  go_wp2_with (first | (go_at_call 42; refine (HKD.out _).mono ?_; rintro e _ ⟨rfl, rfl⟩) | (at_builtin; refine wpList_append_own _ rfl _ _ 22 rfl w.heap.size 3 i0 _ 1 8 t27 hi hz0 hz1 hz2 rfl (by decide) _ m (base.map (Value.int .i64)) rfl (HO1.out.alloc _) ⟨_, 0, none⟩ 1 1 [.int .i64 kv] rfl ?p1 ?p2 ?p3 ?p4 ?p5 ?p6 ?_))
  case p1 => rfl
  case p2 =>
    intro i u hj
    rw [Addr.add_lit]
    have hj' : i < 1 := by have := (List.getElem?_eq_some_iff.1 hj).1; simpa using this
    rcases (show i = 0 by omega) with rfl <;> (simp at hj; subst hj; go_simp)
  case p3 => intro u hu; simp at hu; subst hu; rfl
  case p4 => unfold maxLen; omega
  case p5 => omega
  case p6 => first | omega | (simp; done) | (simp; omega)
  intro v9 w9 hown hgrow hat
  obtain ⟨R9, c9, hR9, hc91, hc92⟩ := own_slice hown
  subst hR9
  unfold maxLen at hc92
  have HO9 := Lib.hid hown
  have HB9 := Lib.hid (show Below w.heap.size w w9 from ((HB1.out).alloc hz1w _).grown hgrow (by first | omega | (simp; done) | (simp; omega)) (fun k hk => (HO1.out.lt k hk).1))
  clear hown hgrow hat
  go_wp2
  go_ret2
  refine ⟨R9, c9, by simp [HM.out], by simp [HM.out]; omega, hc92, ?_, HB9.out⟩
  have h := HO9.out
  simpa [HM.out] using h
set_option maxHeartbeats 8000000 in
set_option maxRecDepth 100000 in
theorem does_bin16 (A : Option Addr) (c : Nat) (cells : List CellD) (n a0 a1 : Int) (a : Nat) (w : World) (hr : Row w w.heap.size 6 A cells.length (cellRow cells)) (S : Option Addr) (cs m : Nat) (base : List Int) (aa b : Int) (hs : Row w w.heap.size 1 S (m + 2) ((base ++ [aa, b]).map (Value.int .i64))) (hm : base.length = m) (hsc : m + 2 ≤ cs) (hm8 : m + 1 ≤ 8) (hk : kindE 16 aa b = 0) :
    Calls Tryd.prog 64 #[.slice A cells.length c, .agg #[.int .i64 a0, .int .i64 a1, .int .i64 16, .int .i64 a, .int .i64 n], .slice S (m + 2) cs] w (DoesBack w (base ++ [kindM 16 aa b])) := by
  obtain ⟨i0, hi, hz0, hz1, hz2⟩ := info_parts rcInfo
  have t27 := rcTy
  have HB0 := Lib.hid (show Below w.heap.size w (w.alloc (.cells #[.int .i64 a0, .int .i64 a1, .int .i64 16, .int .i64 a, .int .i64 n] 67)) from (Below.refl _ w).alloc (Nat.le_refl _) _)
  have TK := Lib.hid (fun u => show Calls Tryd.prog 76 #[.int .i64 16] u fun e w' => e = .returned (.int .i64 2) ∧ u = w' from rtakes_any 16 u)
  have HROW := Lib.hid (row_take hs hm)
  have HM := Lib.hid hm
  have hk1 : (m : Int) + 2 ≤ cs := by omega
  have hk2 : decide ((8 : Int) < (m : Int) + 1) = false := decide_eq_false (by omega)
  have hk3 : decide (8 < m + 1) = false := decide_eq_false (by omega)
  have hk4 : (m : Int) ≤ 8 := by omega
  have hk7 : (m : Int) + 2 - 1 = m + 1 := by omega
  have hk8 : (m : Int) + 2 - 2 = m := by omega
  have hk9 : ((m : Int) + 1).toNat = m + 1 := by omega
  obtain ⟨sb, so, hS, hsb, ea⟩ := row_top (j := 0) hs hm (by decide) rfl
  rw [Nat.add_zero] at ea
  obtain ⟨sb', so', hS', _, eb⟩ := row_top (j := 1) hs hm (by decide) rfl
  rw [Nat.add_assoc] at eb
  obtain ⟨rfl, rfl⟩ : sb = sb' ∧ so = so' := by rw [hS] at hS'; injection hS' with e; injection e with e1 e2; exact ⟨e1, e2⟩
  subst hS
  have KD := fun u => rkind_16 aa b u
  rw [hk] at KD
  generalize kindM 16 aa b = kv at *
  have HKD := Lib.hid KD
  clear KD hk
  clear hs hm hr
  go_enter Tryd.func64, Tryd.ntmps64
  go_wp2_with (first | (go_at_call 76; refine (TK.out _).mono ?_; rintro e _ ⟨rfl, rfl⟩) | (at_builtin; refine wpList_append_row _ rfl _ _ 22 rfl w.heap.size 3 i0 _ 1 8 t27 hi hz0 hz1 hz2 rfl (by decide) _ 0 [] rfl ?qo w.heap.size (some ⟨sb, so, none⟩) m cs (base.map (Value.int .i64)) rfl ?qr ?q1 ?q4 ?q5 ?q6 ?_))
  case qo =>
    have h := World.ownsRow_made (base := w.heap.size) (e := 3) (size := 1) (w.alloc (.cells #[.int .i64 a0, .int .i64 a1, .int .i64 16, .int .i64 a, .int .i64 n] 67)) #[] 0 (by simp) (Nat.zero_le _) rfl
    have h' : ((w.alloc (.cells #[.int .i64 a0, .int .i64 a1, .int .i64 16, .int .i64 a, .int .i64 n] 67)).alloc (.cells #[] 3)).ownsRow w.heap.size 3 1 (.slice (some ⟨w.heap.size + 1, 0, none⟩) 0 0) 0 [] := by simpa using h
    exact h'
  case qr => exact (HROW.out.alloc (Nat.le_refl _) _).alloc (by simp) _
  case q1 => intro u hu; obtain ⟨x, _, rfl⟩ := List.mem_map.1 hu; rfl
  case q4 => unfold maxLen; omega
  case q5 => omega
  case q6 => first | omega | (simp; done) | (simp; omega)
  intro v1 w1 hown hgrow hat
  have hb1 : Below w.heap.size w w1 := ((HB0.out).alloc (by simp) _).grown hgrow (by simp; omega) (by intro k hk; simp [Value.ownBlock] at hk; omega)
  have hown' : w1.ownsRow w.heap.size 3 1 v1 m (base.map (Value.int .i64)) := by simpa using hown
  obtain ⟨b0, b3, b2, b1, b4⟩ := op_kept (by simp [Value.ownBlock]) hgrow
  have hz1w := hb1.size
  have HO1 := Lib.hid hown'
  have HB1 := Lib.hid hb1
  clear hown hown' hgrow hat hb1
  go_wp2_with (first | (go_at_call 42; refine (HKD.out _).mono ?_; rintro e _ ⟨rfl, rfl⟩) | (at_builtin; refine wpList_append_own _ rfl _ _ 22 rfl w.heap.size 3 i0 _ 1 8 t27 hi hz0 hz1 hz2 rfl (by decide) _ m (base.map (Value.int .i64)) rfl (HO1.out.alloc _) ⟨_, 0, none⟩ 1 1 [.int .i64 kv] rfl ?p1 ?p2 ?p3 ?p4 ?p5 ?p6 ?_))
  case p1 => rfl
  case p2 =>
    intro i u hj
    rw [Addr.add_lit]
    have hj' : i < 1 := by have := (List.getElem?_eq_some_iff.1 hj).1; simpa using this
    rcases (show i = 0 by omega) with rfl <;> (simp at hj; subst hj; go_simp)
  case p3 => intro u hu; simp at hu; subst hu; rfl
  case p4 => unfold maxLen; omega
  case p5 => omega
  case p6 => first | omega | (simp; done) | (simp; omega)
  intro v9 w9 hown hgrow hat
  obtain ⟨R9, c9, hR9, hc91, hc92⟩ := own_slice hown
  subst hR9
  unfold maxLen at hc92
  have HO9 := Lib.hid hown
  have HB9 := Lib.hid (show Below w.heap.size w w9 from ((HB1.out).alloc hz1w _).grown hgrow (by first | omega | (simp; done) | (simp; omega)) (fun k hk => (HO1.out.lt k hk).1))
  clear hown hgrow hat
  go_wp2
  go_ret2
  refine ⟨R9, c9, by simp [HM.out], by simp [HM.out]; omega, hc92, ?_, HB9.out⟩
  have h := HO9.out
  simpa [HM.out] using h
set_option maxHeartbeats 8000000 in
set_option maxRecDepth 100000 in
theorem does_bin17 (A : Option Addr) (c : Nat) (cells : List CellD) (n a0 a1 : Int) (a : Nat) (w : World) (hr : Row w w.heap.size 6 A cells.length (cellRow cells)) (S : Option Addr) (cs m : Nat) (base : List Int) (aa b : Int) (hs : Row w w.heap.size 1 S (m + 2) ((base ++ [aa, b]).map (Value.int .i64))) (hm : base.length = m) (hsc : m + 2 ≤ cs) (hm8 : m + 1 ≤ 8) (hk : kindE 17 aa b = 0) :
    Calls Tryd.prog 64 #[.slice A cells.length c, .agg #[.int .i64 a0, .int .i64 a1, .int .i64 17, .int .i64 a, .int .i64 n], .slice S (m + 2) cs] w (DoesBack w (base ++ [kindM 17 aa b])) := by
  obtain ⟨i0, hi, hz0, hz1, hz2⟩ := info_parts rcInfo
  have t27 := rcTy
  have HB0 := Lib.hid (show Below w.heap.size w (w.alloc (.cells #[.int .i64 a0, .int .i64 a1, .int .i64 17, .int .i64 a, .int .i64 n] 67)) from (Below.refl _ w).alloc (Nat.le_refl _) _)
  have TK := Lib.hid (fun u => show Calls Tryd.prog 76 #[.int .i64 17] u fun e w' => e = .returned (.int .i64 2) ∧ u = w' from rtakes_any 17 u)
  have HROW := Lib.hid (row_take hs hm)
  have HM := Lib.hid hm
  have hk1 : (m : Int) + 2 ≤ cs := by omega
  have hk2 : decide ((8 : Int) < (m : Int) + 1) = false := decide_eq_false (by omega)
  have hk3 : decide (8 < m + 1) = false := decide_eq_false (by omega)
  have hk4 : (m : Int) ≤ 8 := by omega
  have hk7 : (m : Int) + 2 - 1 = m + 1 := by omega
  have hk8 : (m : Int) + 2 - 2 = m := by omega
  have hk9 : ((m : Int) + 1).toNat = m + 1 := by omega
  obtain ⟨sb, so, hS, hsb, ea⟩ := row_top (j := 0) hs hm (by decide) rfl
  rw [Nat.add_zero] at ea
  obtain ⟨sb', so', hS', _, eb⟩ := row_top (j := 1) hs hm (by decide) rfl
  rw [Nat.add_assoc] at eb
  obtain ⟨rfl, rfl⟩ : sb = sb' ∧ so = so' := by rw [hS] at hS'; injection hS' with e; injection e with e1 e2; exact ⟨e1, e2⟩
  subst hS
  have KD := fun u => rkind_17 aa b u
  rw [hk] at KD
  generalize kindM 17 aa b = kv at *
  have HKD := Lib.hid KD
  clear KD hk
  clear hs hm hr
  go_enter Tryd.func64, Tryd.ntmps64
  go_wp2_with (first | (go_at_call 76; refine (TK.out _).mono ?_; rintro e _ ⟨rfl, rfl⟩) | (at_builtin; refine wpList_append_row _ rfl _ _ 22 rfl w.heap.size 3 i0 _ 1 8 t27 hi hz0 hz1 hz2 rfl (by decide) _ 0 [] rfl ?qo w.heap.size (some ⟨sb, so, none⟩) m cs (base.map (Value.int .i64)) rfl ?qr ?q1 ?q4 ?q5 ?q6 ?_))
  case qo =>
    have h := World.ownsRow_made (base := w.heap.size) (e := 3) (size := 1) (w.alloc (.cells #[.int .i64 a0, .int .i64 a1, .int .i64 17, .int .i64 a, .int .i64 n] 67)) #[] 0 (by simp) (Nat.zero_le _) rfl
    have h' : ((w.alloc (.cells #[.int .i64 a0, .int .i64 a1, .int .i64 17, .int .i64 a, .int .i64 n] 67)).alloc (.cells #[] 3)).ownsRow w.heap.size 3 1 (.slice (some ⟨w.heap.size + 1, 0, none⟩) 0 0) 0 [] := by simpa using h
    exact h'
  case qr => exact (HROW.out.alloc (Nat.le_refl _) _).alloc (by simp) _
  case q1 => intro u hu; obtain ⟨x, _, rfl⟩ := List.mem_map.1 hu; rfl
  case q4 => unfold maxLen; omega
  case q5 => omega
  case q6 => first | omega | (simp; done) | (simp; omega)
  intro v1 w1 hown hgrow hat
  have hb1 : Below w.heap.size w w1 := ((HB0.out).alloc (by simp) _).grown hgrow (by simp; omega) (by intro k hk; simp [Value.ownBlock] at hk; omega)
  have hown' : w1.ownsRow w.heap.size 3 1 v1 m (base.map (Value.int .i64)) := by simpa using hown
  obtain ⟨b0, b3, b2, b1, b4⟩ := op_kept (by simp [Value.ownBlock]) hgrow
  have hz1w := hb1.size
  have HO1 := Lib.hid hown'
  have HB1 := Lib.hid hb1
  clear hown hown' hgrow hat hb1
  go_wp2_with (first | (go_at_call 42; refine (HKD.out _).mono ?_; rintro e _ ⟨rfl, rfl⟩) | (at_builtin; refine wpList_append_own _ rfl _ _ 22 rfl w.heap.size 3 i0 _ 1 8 t27 hi hz0 hz1 hz2 rfl (by decide) _ m (base.map (Value.int .i64)) rfl (HO1.out.alloc _) ⟨_, 0, none⟩ 1 1 [.int .i64 kv] rfl ?p1 ?p2 ?p3 ?p4 ?p5 ?p6 ?_))
  case p1 => rfl
  case p2 =>
    intro i u hj
    rw [Addr.add_lit]
    have hj' : i < 1 := by have := (List.getElem?_eq_some_iff.1 hj).1; simpa using this
    rcases (show i = 0 by omega) with rfl <;> (simp at hj; subst hj; go_simp)
  case p3 => intro u hu; simp at hu; subst hu; rfl
  case p4 => unfold maxLen; omega
  case p5 => omega
  case p6 => first | omega | (simp; done) | (simp; omega)
  intro v9 w9 hown hgrow hat
  obtain ⟨R9, c9, hR9, hc91, hc92⟩ := own_slice hown
  subst hR9
  unfold maxLen at hc92
  have HO9 := Lib.hid hown
  have HB9 := Lib.hid (show Below w.heap.size w w9 from ((HB1.out).alloc hz1w _).grown hgrow (by first | omega | (simp; done) | (simp; omega)) (fun k hk => (HO1.out.lt k hk).1))
  clear hown hgrow hat
  go_wp2
  go_ret2
  refine ⟨R9, c9, by simp [HM.out], by simp [HM.out]; omega, hc92, ?_, HB9.out⟩
  have h := HO9.out
  simpa [HM.out] using h
set_option maxHeartbeats 8000000 in
set_option maxRecDepth 100000 in
theorem does_bin28 (A : Option Addr) (c : Nat) (cells : List CellD) (n a0 a1 : Int) (a : Nat) (w : World) (hr : Row w w.heap.size 6 A cells.length (cellRow cells)) (S : Option Addr) (cs m : Nat) (base : List Int) (aa b : Int) (hs : Row w w.heap.size 1 S (m + 2) ((base ++ [aa, b]).map (Value.int .i64))) (hm : base.length = m) (hsc : m + 2 ≤ cs) (hm8 : m + 1 ≤ 8) (hk : kindE 28 aa b = 0) :
    Calls Tryd.prog 64 #[.slice A cells.length c, .agg #[.int .i64 a0, .int .i64 a1, .int .i64 28, .int .i64 a, .int .i64 n], .slice S (m + 2) cs] w (DoesBack w (base ++ [kindM 28 aa b])) := by
  obtain ⟨i0, hi, hz0, hz1, hz2⟩ := info_parts rcInfo
  have t27 := rcTy
  have HB0 := Lib.hid (show Below w.heap.size w (w.alloc (.cells #[.int .i64 a0, .int .i64 a1, .int .i64 28, .int .i64 a, .int .i64 n] 67)) from (Below.refl _ w).alloc (Nat.le_refl _) _)
  have TK := Lib.hid (fun u => show Calls Tryd.prog 76 #[.int .i64 28] u fun e w' => e = .returned (.int .i64 2) ∧ u = w' from rtakes_any 28 u)
  have HROW := Lib.hid (row_take hs hm)
  have HM := Lib.hid hm
  have hk1 : (m : Int) + 2 ≤ cs := by omega
  have hk2 : decide ((8 : Int) < (m : Int) + 1) = false := decide_eq_false (by omega)
  have hk3 : decide (8 < m + 1) = false := decide_eq_false (by omega)
  have hk4 : (m : Int) ≤ 8 := by omega
  have hk7 : (m : Int) + 2 - 1 = m + 1 := by omega
  have hk8 : (m : Int) + 2 - 2 = m := by omega
  have hk9 : ((m : Int) + 1).toNat = m + 1 := by omega
  obtain ⟨sb, so, hS, hsb, ea⟩ := row_top (j := 0) hs hm (by decide) rfl
  rw [Nat.add_zero] at ea
  obtain ⟨sb', so', hS', _, eb⟩ := row_top (j := 1) hs hm (by decide) rfl
  rw [Nat.add_assoc] at eb
  obtain ⟨rfl, rfl⟩ : sb = sb' ∧ so = so' := by rw [hS] at hS'; injection hS' with e; injection e with e1 e2; exact ⟨e1, e2⟩
  subst hS
  have KD := fun u => rkind_28 aa b u
  rw [hk] at KD
  generalize kindM 28 aa b = kv at *
  have HKD := Lib.hid KD
  clear KD hk
  clear hs hm hr
  go_enter Tryd.func64, Tryd.ntmps64
  go_wp2_with (first | (go_at_call 76; refine (TK.out _).mono ?_; rintro e _ ⟨rfl, rfl⟩) | (at_builtin; refine wpList_append_row _ rfl _ _ 22 rfl w.heap.size 3 i0 _ 1 8 t27 hi hz0 hz1 hz2 rfl (by decide) _ 0 [] rfl ?qo w.heap.size (some ⟨sb, so, none⟩) m cs (base.map (Value.int .i64)) rfl ?qr ?q1 ?q4 ?q5 ?q6 ?_))
  case qo =>
    have h := World.ownsRow_made (base := w.heap.size) (e := 3) (size := 1) (w.alloc (.cells #[.int .i64 a0, .int .i64 a1, .int .i64 28, .int .i64 a, .int .i64 n] 67)) #[] 0 (by simp) (Nat.zero_le _) rfl
    have h' : ((w.alloc (.cells #[.int .i64 a0, .int .i64 a1, .int .i64 28, .int .i64 a, .int .i64 n] 67)).alloc (.cells #[] 3)).ownsRow w.heap.size 3 1 (.slice (some ⟨w.heap.size + 1, 0, none⟩) 0 0) 0 [] := by simpa using h
    exact h'
  case qr => exact (HROW.out.alloc (Nat.le_refl _) _).alloc (by simp) _
  case q1 => intro u hu; obtain ⟨x, _, rfl⟩ := List.mem_map.1 hu; rfl
  case q4 => unfold maxLen; omega
  case q5 => omega
  case q6 => first | omega | (simp; done) | (simp; omega)
  intro v1 w1 hown hgrow hat
  have hb1 : Below w.heap.size w w1 := ((HB0.out).alloc (by simp) _).grown hgrow (by simp; omega) (by intro k hk; simp [Value.ownBlock] at hk; omega)
  have hown' : w1.ownsRow w.heap.size 3 1 v1 m (base.map (Value.int .i64)) := by simpa using hown
  obtain ⟨b0, b3, b2, b1, b4⟩ := op_kept (by simp [Value.ownBlock]) hgrow
  have hz1w := hb1.size
  have HO1 := Lib.hid hown'
  have HB1 := Lib.hid hb1
  clear hown hown' hgrow hat hb1
  go_wp2_with (first | (go_at_call 42; refine (HKD.out _).mono ?_; rintro e _ ⟨rfl, rfl⟩) | (at_builtin; refine wpList_append_own _ rfl _ _ 22 rfl w.heap.size 3 i0 _ 1 8 t27 hi hz0 hz1 hz2 rfl (by decide) _ m (base.map (Value.int .i64)) rfl (HO1.out.alloc _) ⟨_, 0, none⟩ 1 1 [.int .i64 kv] rfl ?p1 ?p2 ?p3 ?p4 ?p5 ?p6 ?_))
  case p1 => rfl
  case p2 =>
    intro i u hj
    rw [Addr.add_lit]
    have hj' : i < 1 := by have := (List.getElem?_eq_some_iff.1 hj).1; simpa using this
    rcases (show i = 0 by omega) with rfl <;> (simp at hj; subst hj; go_simp)
  case p3 => intro u hu; simp at hu; subst hu; rfl
  case p4 => unfold maxLen; omega
  case p5 => omega
  case p6 => first | omega | (simp; done) | (simp; omega)
  intro v9 w9 hown hgrow hat
  obtain ⟨R9, c9, hR9, hc91, hc92⟩ := own_slice hown
  subst hR9
  unfold maxLen at hc92
  have HO9 := Lib.hid hown
  have HB9 := Lib.hid (show Below w.heap.size w w9 from ((HB1.out).alloc hz1w _).grown hgrow (by first | omega | (simp; done) | (simp; omega)) (fun k hk => (HO1.out.lt k hk).1))
  clear hown hgrow hat
  go_wp2
  go_ret2
  refine ⟨R9, c9, by simp [HM.out], by simp [HM.out]; omega, hc92, ?_, HB9.out⟩
  have h := HO9.out
  simpa [HM.out] using h
set_option maxHeartbeats 8000000 in
set_option maxRecDepth 100000 in
theorem does_bin29 (A : Option Addr) (c : Nat) (cells : List CellD) (n a0 a1 : Int) (a : Nat) (w : World) (hr : Row w w.heap.size 6 A cells.length (cellRow cells)) (S : Option Addr) (cs m : Nat) (base : List Int) (aa b : Int) (hs : Row w w.heap.size 1 S (m + 2) ((base ++ [aa, b]).map (Value.int .i64))) (hm : base.length = m) (hsc : m + 2 ≤ cs) (hm8 : m + 1 ≤ 8) (hk : kindE 29 aa b = 0) :
    Calls Tryd.prog 64 #[.slice A cells.length c, .agg #[.int .i64 a0, .int .i64 a1, .int .i64 29, .int .i64 a, .int .i64 n], .slice S (m + 2) cs] w (DoesBack w (base ++ [kindM 29 aa b])) := by
  obtain ⟨i0, hi, hz0, hz1, hz2⟩ := info_parts rcInfo
  have t27 := rcTy
  have HB0 := Lib.hid (show Below w.heap.size w (w.alloc (.cells #[.int .i64 a0, .int .i64 a1, .int .i64 29, .int .i64 a, .int .i64 n] 67)) from (Below.refl _ w).alloc (Nat.le_refl _) _)
  have TK := Lib.hid (fun u => show Calls Tryd.prog 76 #[.int .i64 29] u fun e w' => e = .returned (.int .i64 2) ∧ u = w' from rtakes_any 29 u)
  have HROW := Lib.hid (row_take hs hm)
  have HM := Lib.hid hm
  have hk1 : (m : Int) + 2 ≤ cs := by omega
  have hk2 : decide ((8 : Int) < (m : Int) + 1) = false := decide_eq_false (by omega)
  have hk3 : decide (8 < m + 1) = false := decide_eq_false (by omega)
  have hk4 : (m : Int) ≤ 8 := by omega
  have hk7 : (m : Int) + 2 - 1 = m + 1 := by omega
  have hk8 : (m : Int) + 2 - 2 = m := by omega
  have hk9 : ((m : Int) + 1).toNat = m + 1 := by omega
  obtain ⟨sb, so, hS, hsb, ea⟩ := row_top (j := 0) hs hm (by decide) rfl
  rw [Nat.add_zero] at ea
  obtain ⟨sb', so', hS', _, eb⟩ := row_top (j := 1) hs hm (by decide) rfl
  rw [Nat.add_assoc] at eb
  obtain ⟨rfl, rfl⟩ : sb = sb' ∧ so = so' := by rw [hS] at hS'; injection hS' with e; injection e with e1 e2; exact ⟨e1, e2⟩
  subst hS
  have KD := fun u => rkind_29 aa b u
  rw [hk] at KD
  generalize kindM 29 aa b = kv at *
  have HKD := Lib.hid KD
  clear KD hk
  clear hs hm hr
  go_enter Tryd.func64, Tryd.ntmps64
  go_wp2_with (first | (go_at_call 76; refine (TK.out _).mono ?_; rintro e _ ⟨rfl, rfl⟩) | (at_builtin; refine wpList_append_row _ rfl _ _ 22 rfl w.heap.size 3 i0 _ 1 8 t27 hi hz0 hz1 hz2 rfl (by decide) _ 0 [] rfl ?qo w.heap.size (some ⟨sb, so, none⟩) m cs (base.map (Value.int .i64)) rfl ?qr ?q1 ?q4 ?q5 ?q6 ?_))
  case qo =>
    have h := World.ownsRow_made (base := w.heap.size) (e := 3) (size := 1) (w.alloc (.cells #[.int .i64 a0, .int .i64 a1, .int .i64 29, .int .i64 a, .int .i64 n] 67)) #[] 0 (by simp) (Nat.zero_le _) rfl
    have h' : ((w.alloc (.cells #[.int .i64 a0, .int .i64 a1, .int .i64 29, .int .i64 a, .int .i64 n] 67)).alloc (.cells #[] 3)).ownsRow w.heap.size 3 1 (.slice (some ⟨w.heap.size + 1, 0, none⟩) 0 0) 0 [] := by simpa using h
    exact h'
  case qr => exact (HROW.out.alloc (Nat.le_refl _) _).alloc (by simp) _
  case q1 => intro u hu; obtain ⟨x, _, rfl⟩ := List.mem_map.1 hu; rfl
  case q4 => unfold maxLen; omega
  case q5 => omega
  case q6 => first | omega | (simp; done) | (simp; omega)
  intro v1 w1 hown hgrow hat
  have hb1 : Below w.heap.size w w1 := ((HB0.out).alloc (by simp) _).grown hgrow (by simp; omega) (by intro k hk; simp [Value.ownBlock] at hk; omega)
  have hown' : w1.ownsRow w.heap.size 3 1 v1 m (base.map (Value.int .i64)) := by simpa using hown
  obtain ⟨b0, b3, b2, b1, b4⟩ := op_kept (by simp [Value.ownBlock]) hgrow
  have hz1w := hb1.size
  have HO1 := Lib.hid hown'
  have HB1 := Lib.hid hb1
  clear hown hown' hgrow hat hb1
  go_wp2_with (first | (go_at_call 42; refine (HKD.out _).mono ?_; rintro e _ ⟨rfl, rfl⟩) | (at_builtin; refine wpList_append_own _ rfl _ _ 22 rfl w.heap.size 3 i0 _ 1 8 t27 hi hz0 hz1 hz2 rfl (by decide) _ m (base.map (Value.int .i64)) rfl (HO1.out.alloc _) ⟨_, 0, none⟩ 1 1 [.int .i64 kv] rfl ?p1 ?p2 ?p3 ?p4 ?p5 ?p6 ?_))
  case p1 => rfl
  case p2 =>
    intro i u hj
    rw [Addr.add_lit]
    have hj' : i < 1 := by have := (List.getElem?_eq_some_iff.1 hj).1; simpa using this
    rcases (show i = 0 by omega) with rfl <;> (simp at hj; subst hj; go_simp)
  case p3 => intro u hu; simp at hu; subst hu; rfl
  case p4 => unfold maxLen; omega
  case p5 => omega
  case p6 => first | omega | (simp; done) | (simp; omega)
  intro v9 w9 hown hgrow hat
  obtain ⟨R9, c9, hR9, hc91, hc92⟩ := own_slice hown
  subst hR9
  unfold maxLen at hc92
  have HO9 := Lib.hid hown
  have HB9 := Lib.hid (show Below w.heap.size w w9 from ((HB1.out).alloc hz1w _).grown hgrow (by first | omega | (simp; done) | (simp; omega)) (fun k hk => (HO1.out.lt k hk).1))
  clear hown hgrow hat
  go_wp2
  go_ret2
  refine ⟨R9, c9, by simp [HM.out], by simp [HM.out]; omega, hc92, ?_, HB9.out⟩
  have h := HO9.out
  simpa [HM.out] using h
end Go.Proofs.YtngobbbinacomaaDoor
