/- The document's Bytes, told with: blocks of other types stay. Rows that are kept. -/
import Derived.Test.YtngobbbinacomaaDoorQ19
import Derived.Test.YtngobbbinacomaaDoorQ25
namespace Go.Proofs.YtngobbbinacomaaDoor.c10
open Go.RowKit Go.Proofs.YtngobbbinacomaaDoor Go.Proofs.YtngobbbinacomaaDoor.c11
set_option linter.unusedVariables false
set_option linter.unusedSimpArgs false
/-- As Below; and blocks that hold no bytes stay. -/
structure BelowT (B : Nat) (w w' : World) : Prop where
  below : Below B w w'
  keep : ∀ (g : Nat) (cs : Array Value) (T : TypeId) (fr : Nat × Nat), w.heap[g]? = some (.cells cs T fr) → T ≠ 5 → w'.heap[g]? = some (.cells cs T fr)
theorem BelowT.refl (B : Nat) (w : World) : BelowT B w w := ⟨Below.refl B w, fun _ _ _ _ h _ => h⟩
theorem BelowT.size {B : Nat} {w w' : World} (h : BelowT B w w') : w.heap.size ≤ w'.heap.size := h.below.size
theorem BelowT.alloc {B : Nat} {w w' : World} (h : BelowT B w w') (hB : B ≤ w'.heap.size) (o : Obj) : BelowT B w (w'.alloc o) :=
  ⟨h.below.alloc hB o, fun g cs T fr hg hT => heap_alloc (h.keep g cs T fr hg hT) o⟩
theorem grown_belowT {B : Nat} {a w w' : World} {base : Nat} {size n : Nat} {v : Value} {xs : List Value} (h : BelowT B a w) (ho : w.ownsRow base 5 size v n xs) (hg : w.grownBy w' v.ownBlock) (hB : B ≤ base) (hs : B ≤ w.heap.size) : BelowT B a w' :=
  ⟨grown_below h.below ho hg hB hs, fun g cs T fr hh hT => box_kept ho hg (h.keep g cs T fr hh hT) hT⟩
set_option maxHeartbeats 8000000 in
theorem tbytes_bare (v : Value) (n base : Nat) (ys : List Int) (a0 a1 s a N : Int) (w : World) (hn : n ≤ 50000) (ho : w.ownsRow base 5 1 v n (u8s ys)) (hbase : base ≤ w.heap.size) (hb : bearsN s = 0) :
    Calls Tryd.prog 33 #[v, .agg #[.int .i64 a0, .int .i64 a1, .int .i64 s, .int .i64 a, .int .i64 N]] w fun e w' =>
      (∃ v', e = .returned v' ∧ w'.ownsRow base 5 1 v' (n + 1) (u8s (ys ++ [s % 256]))) ∧ BelowT base w w' := by
  obtain ⟨i0, hi, hz0, hz1, hz2⟩ := info_parts byteInfo
  have t22 := byteRow
  have HO := Lib.hid ho
  clear ho
  have HNB := Lib.hid hb
  clear hb
  go_enter Tryd.func33, Tryd.ntmps33
  have BX := Lib.hid (show (w.alloc (.cells #[.int .i64 a0, .int .i64 a1, .int .i64 s, .int .i64 a, .int .i64 N] 67)).heap[w.heap.size]? = some (.cells #[.int .i64 a0, .int .i64 a1, .int .i64 s, .int .i64 a, .int .i64 N] 67) from heap_new _ _)
  have HOA := Lib.hid (HO.out.alloc (.cells #[.int .i64 a0, .int .i64 a1, .int .i64 s, .int .i64 a, .int .i64 N] 67))
  have HB := Lib.hid ((BelowT.refl base w).alloc hbase (.cells #[.int .i64 a0, .int .i64 a1, .int .i64 s, .int .i64 a, .int .i64 N] 67))
  go_wp2_with (at_builtin; refine wpList_append_own _ rfl _ _ 44 rfl base 5 i0 _ 1 1 t22 hi hz0 hz1 hz2 rfl (by decide) _ (n) (u8s ys) rfl (HOA.out.alloc _) ⟨_, 0, none⟩ 1 1 (u8s [s % 256]) rfl rfl (one_cellB (by go_simp)) (u8s_one _) (by unfold maxLen; omega) (by omega) (by have hq := HB.out.size; first | omega | (simp; done) | (simp; omega)) ?_; intro v1 w1 hown hgrow hnil; have HB1 := Lib.hid (grown_belowT (B := base) (HB.out.alloc (by have hq := HB.out.size; omega) _) (HOA.out.alloc _) hgrow (Nat.le_refl _) (by have hq := HB.out.size; first | omega | (simp; done) | (simp; omega))); have BX1 := Lib.hid (box_kept (HOA.out.alloc _) hgrow (heap_alloc BX.out _) (by decide)); have HO1 := Lib.hid hown; have m2 := cell_of_heap BX1.out 2; have m3 := cell_of_heap BX1.out 3; have m4 := cell_of_heap BX1.out 4; simp at m2 m3 m4; clear hown hgrow hnil)
  go_wp2_with fail
  refine (rbears_is HNB.out _).mono ?_
  rintro e _ ⟨rfl, rfl⟩
  go_wp2_with fail
  go_loop [0, 6] (fun b i => b = v1 ∧ i = .int .i64 0) (fun _ _ => 0)
  case atStart => exact ⟨rfl, rfl⟩
  case round =>
    obtain ⟨rfl, rfl⟩ := hrel
    go_wp2
    go_ret
    exact ⟨⟨_, rfl, by rw [u8s_app]; exact HO1.out⟩, HB1.out⟩
set_option maxHeartbeats 8000000 in
theorem tbytes_one (v : Value) (n base : Nat) (ys : List Int) (a0 a1 s a N : Int) (w : World) (hn : n ≤ 50000) (ho : w.ownsRow base 5 1 v n (u8s ys)) (hbase : base ≤ w.heap.size) (hb : bearsN s = 1) :
    Calls Tryd.prog 33 #[v, .agg #[.int .i64 a0, .int .i64 a1, .int .i64 s, .int .i64 a, .int .i64 N]] w fun e w' =>
      (∃ v', e = .returned v' ∧ w'.ownsRow base 5 1 v' (n + 2) (u8s (ys ++ [s % 256, a % 256]))) ∧ BelowT base w w' := by
  obtain ⟨i0, hi, hz0, hz1, hz2⟩ := info_parts byteInfo
  have t22 := byteRow
  have HO := Lib.hid ho
  clear ho
  have HNB := Lib.hid hb
  clear hb
  go_enter Tryd.func33, Tryd.ntmps33
  have BX := Lib.hid (show (w.alloc (.cells #[.int .i64 a0, .int .i64 a1, .int .i64 s, .int .i64 a, .int .i64 N] 67)).heap[w.heap.size]? = some (.cells #[.int .i64 a0, .int .i64 a1, .int .i64 s, .int .i64 a, .int .i64 N] 67) from heap_new _ _)
  have HOA := Lib.hid (HO.out.alloc (.cells #[.int .i64 a0, .int .i64 a1, .int .i64 s, .int .i64 a, .int .i64 N] 67))
  have HB := Lib.hid ((BelowT.refl base w).alloc hbase (.cells #[.int .i64 a0, .int .i64 a1, .int .i64 s, .int .i64 a, .int .i64 N] 67))
  go_wp2_with (at_builtin; refine wpList_append_own _ rfl _ _ 44 rfl base 5 i0 _ 1 1 t22 hi hz0 hz1 hz2 rfl (by decide) _ (n) (u8s ys) rfl (HOA.out.alloc _) ⟨_, 0, none⟩ 1 1 (u8s [s % 256]) rfl rfl (one_cellB (by go_simp)) (u8s_one _) (by unfold maxLen; omega) (by omega) (by have hq := HB.out.size; first | omega | (simp; done) | (simp; omega)) ?_; intro v1 w1 hown hgrow hnil; have HB1 := Lib.hid (grown_belowT (B := base) (HB.out.alloc (by have hq := HB.out.size; omega) _) (HOA.out.alloc _) hgrow (Nat.le_refl _) (by have hq := HB.out.size; first | omega | (simp; done) | (simp; omega))); have BX1 := Lib.hid (box_kept (HOA.out.alloc _) hgrow (heap_alloc BX.out _) (by decide)); have HO1 := Lib.hid hown; have m2 := cell_of_heap BX1.out 2; have m3 := cell_of_heap BX1.out 3; have m4 := cell_of_heap BX1.out 4; simp at m2 m3 m4; clear hown hgrow hnil)
  go_wp2_with fail
  refine (rbears_is HNB.out _).mono ?_
  rintro e _ ⟨rfl, rfl⟩
  go_wp2_with (at_builtin; refine wpList_append_own _ rfl _ _ 44 rfl base 5 i0 _ 1 1 t22 hi hz0 hz1 hz2 rfl (by decide) _ (n + 1) (u8s ys ++ u8s [s % 256]) rfl (HO1.out.alloc _) ⟨_, 0, none⟩ 1 1 (u8s [a % 256]) rfl rfl (one_cellB (by go_simp)) (u8s_one _) (by unfold maxLen; omega) (by omega) (by have hq := HB1.out.size; first | omega | (simp; done) | (simp; omega)) ?_; intro v2 w2 hown hgrow hnil; have HB2 := Lib.hid (grown_belowT (B := base) (HB1.out.alloc (by have hq := HB1.out.size; omega) _) (HO1.out.alloc _) hgrow (Nat.le_refl _) (by have hq := HB1.out.size; first | omega | (simp; done) | (simp; omega))); have BX2 := Lib.hid (box_kept (HO1.out.alloc _) hgrow (heap_alloc BX1.out _) (by decide)); have HO2 := Lib.hid hown; have m2 := cell_of_heap BX2.out 2; have m3 := cell_of_heap BX2.out 3; have m4 := cell_of_heap BX2.out 4; simp at m2 m3 m4; clear hown hgrow hnil)
  go_wp2_with fail
  go_loop [0, 6] (fun b i => b = v2 ∧ i = .int .i64 0) (fun _ _ => 0)
  case atStart => exact ⟨rfl, rfl⟩
  case round =>
    obtain ⟨rfl, rfl⟩ := hrel
    go_wp2
    go_ret
    exact ⟨⟨_, rfl, by rw [show ys ++ [s % 256, a % 256] = ys ++ [s % 256] ++ [a % 256] by simp, u8s_app, u8s_app]; exact HO2.out⟩, HB2.out⟩
set_option maxHeartbeats 8000000 in
theorem tbytes_push (v : Value) (n base : Nat) (ys : List Int) (a0 a1 a N : Int) (w : World) (hn : n ≤ 50000) (ho : w.ownsRow base 5 1 v n (u8s ys)) (hbase : base ≤ w.heap.size)  :
    Calls Tryd.prog 33 #[v, .agg #[.int .i64 a0, .int .i64 a1, .int .i64 1, .int .i64 a, .int .i64 N]] w fun e w' =>
      (∃ v', e = .returned v' ∧ w'.ownsRow base 5 1 v' (n + 10) (u8s (ys ++ [1 % 256, a % 256] ++ nb8 N 8))) ∧ BelowT base w w' := by
  obtain ⟨i0, hi, hz0, hz1, hz2⟩ := info_parts byteInfo
  have t22 := byteRow
  have HO := Lib.hid ho
  clear ho
  have HNB := Lib.hid (show bearsN 1 = 9 from rfl)
  go_enter Tryd.func33, Tryd.ntmps33
  have BX := Lib.hid (show (w.alloc (.cells #[.int .i64 a0, .int .i64 a1, .int .i64 1, .int .i64 a, .int .i64 N] 67)).heap[w.heap.size]? = some (.cells #[.int .i64 a0, .int .i64 a1, .int .i64 1, .int .i64 a, .int .i64 N] 67) from heap_new _ _)
  have HOA := Lib.hid (HO.out.alloc (.cells #[.int .i64 a0, .int .i64 a1, .int .i64 1, .int .i64 a, .int .i64 N] 67))
  have HB := Lib.hid ((BelowT.refl base w).alloc hbase (.cells #[.int .i64 a0, .int .i64 a1, .int .i64 1, .int .i64 a, .int .i64 N] 67))
  go_wp2_with (at_builtin; refine wpList_append_own _ rfl _ _ 44 rfl base 5 i0 _ 1 1 t22 hi hz0 hz1 hz2 rfl (by decide) _ (n) (u8s ys) rfl (HOA.out.alloc _) ⟨_, 0, none⟩ 1 1 (u8s [1 % 256]) rfl rfl (one_cellB (by go_simp)) (u8s_one _) (by unfold maxLen; omega) (by omega) (by have hq := HB.out.size; first | omega | (simp; done) | (simp; omega)) ?_; intro v1 w1 hown hgrow hnil; have HB1 := Lib.hid (grown_belowT (B := base) (HB.out.alloc (by have hq := HB.out.size; omega) _) (HOA.out.alloc _) hgrow (Nat.le_refl _) (by have hq := HB.out.size; first | omega | (simp; done) | (simp; omega))); have BX1 := Lib.hid (box_kept (HOA.out.alloc _) hgrow (heap_alloc BX.out _) (by decide)); have HO1 := Lib.hid hown; have m2 := cell_of_heap BX1.out 2; have m3 := cell_of_heap BX1.out 3; have m4 := cell_of_heap BX1.out 4; simp at m2 m3 m4; clear hown hgrow hnil)
  go_wp2_with fail
  refine (rbears_is HNB.out _).mono ?_
  rintro e _ ⟨rfl, rfl⟩
  go_wp2_with (at_builtin; refine wpList_append_own _ rfl _ _ 44 rfl base 5 i0 _ 1 1 t22 hi hz0 hz1 hz2 rfl (by decide) _ (n + 1) (u8s ys ++ u8s [1 % 256]) rfl (HO1.out.alloc _) ⟨_, 0, none⟩ 1 1 (u8s [a % 256]) rfl rfl (one_cellB (by go_simp)) (u8s_one _) (by unfold maxLen; omega) (by omega) (by have hq := HB1.out.size; first | omega | (simp; done) | (simp; omega)) ?_; intro v2 w2 hown hgrow hnil; have HB2 := Lib.hid (grown_belowT (B := base) (HB1.out.alloc (by have hq := HB1.out.size; omega) _) (HO1.out.alloc _) hgrow (Nat.le_refl _) (by have hq := HB1.out.size; first | omega | (simp; done) | (simp; omega))); have BX2 := Lib.hid (box_kept (HO1.out.alloc _) hgrow (heap_alloc BX1.out _) (by decide)); have HO2 := Lib.hid hown; have m2 := cell_of_heap BX2.out 2; have m3 := cell_of_heap BX2.out 3; have m4 := cell_of_heap BX2.out 4; simp at m2 m3 m4; clear hown hgrow hnil)
  go_wp2_with fail
  go_loopw [0, 6] (fun out i wr => ∃ k : Nat, k ≤ 8 ∧ i = .int .i64 k ∧ wr.ownsRow base 5 1 out (n + 2 + k) (u8s (ys ++ [1 % 256, a % 256] ++ nb8 N k)) ∧ BelowT base w wr ∧ wr.heap[w.heap.size]? = some (.cells #[.int .i64 a0, .int .i64 a1, .int .i64 1, .int .i64 a, .int .i64 N] 67)) (fun _ i _ => 8 - (intOf i).toNat)
  case atStart =>
    refine ⟨0, by omega, rfl, ?_, HB2.out, BX2.out⟩
    have := HO2.out
    simp only [u8s, nb8, List.map_append, List.append_assoc] at this ⊢
    simpa using this
  case round =>
    obtain ⟨k, hk, rfl, hown, hbw, hbx⟩ := hrel
    have HOW := Lib.hid hown
    have HBW := Lib.hid hbw
    have BXW := Lib.hid hbx
    clear hown hbw hbx m2 m3 m4
    have k4 := cell_of_heap BXW.out 4
    simp at k4
    by_cases hlt : k < 8
    · have hu1 : IntKind.u64.wrap (k : Int) = k := wrap_u64 _ (by omega) (by omega)
      have hu2 : IntKind.u64.wrap (8 * (k : Int)) = 8 * k := wrap_u64 _ (by omega) (by omega)
      have hk9 : (8 * (k : Int)).toNat = 8 * k := by omega
      have hk0 : (0 : Int) ≤ 8 * k := by omega
      have hlt' : (k : Int) < 8 := by omega
      go_wp2_with (at_builtin; refine wpList_append_own _ rfl _ _ 44 rfl base 5 i0 _ 1 1 t22 hi hz0 hz1 hz2 rfl (by decide) _ (n + 2 + k) (u8s (ys ++ [1 % 256, a % 256] ++ nb8 N k)) rfl (HOW.out.alloc _) ⟨_, 0, none⟩ 1 1 (u8s [IntKind.u64.wrap N / 2 ^ (8 * k) % 256]) rfl rfl (one_cellB (by go_simp)) (u8s_one _) (by unfold maxLen; omega) (by omega) (by have hq := HBW.out.size; first | omega | (simp; done) | (simp; omega)) ?_; intro v9 w9 hown hgrow hnil; have HB9 := Lib.hid (grown_belowT (B := base) (HBW.out.alloc (by have hq := HBW.out.size; omega) _) (HOW.out.alloc _) hgrow (Nat.le_refl _) (by have hq := HBW.out.size; first | omega | (simp; done) | (simp; omega))); have BX9 := Lib.hid (box_kept (HOW.out.alloc _) hgrow (heap_alloc BXW.out _) (by decide)); have HO9 := Lib.hid hown; have m2 := cell_of_heap BX9.out 2; have m3 := cell_of_heap BX9.out 3; have m4 := cell_of_heap BX9.out 4; simp at m2 m3 m4; clear hown hgrow hnil)
      go_wp2
      go_roundw
      case rel =>
        refine ⟨k + 1, by omega, by go_num, ?_, HB9.out, BX9.out⟩
        have := HO9.out
        rw [← u8s_app, List.append_assoc, ← nb8_succ] at this
        exact this
      case measure => simp [intOf]; omega
    · have : k = 8 := by omega
      subst this
      clear hlt
      have hge : ¬ ((8 : Nat) : Int) < 8 := by omega
      go_wp2
      go_ret
      exact ⟨⟨_, rfl, by simpa using HOW.out⟩, HBW.out⟩
theorem tbytes_any (v : Value) (n base : Nat) (ys : List Int) (a0 a1 s a N : Int) (w : World) (hn : n ≤ 50000) (ho : w.ownsRow base 5 1 v n (u8s ys)) (hbase : base ≤ w.heap.size) :
    Calls Tryd.prog 33 #[v, .agg #[.int .i64 a0, .int .i64 a1, .int .i64 s, .int .i64 a, .int .i64 N]] w fun e w' =>
      (∃ v', e = .returned v' ∧ w'.ownsRow base 5 1 v' (n + (encB s a N).length) (u8s (ys ++ encB s a N))) ∧ BelowT base w w' := by
  rcases bearsN_ways s with ⟨h1, h2⟩ | ⟨h1, h2⟩ | ⟨h1, h2⟩
  · have e : encB s a N = [s % 256] := by simp [encB, h1, h2]
    rw [e]
    exact tbytes_bare v n base ys a0 a1 s a N w hn ho hbase h1
  · have e : encB s a N = [s % 256, a % 256] := by simp [encB, h1, h2]
    rw [e]
    exact tbytes_one v n base ys a0 a1 s a N w hn ho hbase h1
  · have e : encB s a N = [1 % 256, a % 256] ++ nb8 N 8 := by simp [encB, h2, show bearsN 1 = 9 from rfl]
    rw [e, show ([1 % 256, a % 256] ++ nb8 N 8).length = 10 by simp [nb8_length], ← List.append_assoc, h2]
    exact tbytes_push v n base ys a0 a1 a N w hn ho hbase
end Go.Proofs.YtngobbbinacomaaDoor.c10
namespace Go.Proofs.YtngobbbinacomaaDoor
open Go.RowKit Go.Proofs.YtngobbbinacomaaDoor.c11 Go.Proofs.YtngobbbinacomaaDoor.c10
set_option linter.unusedVariables false
set_option linter.unusedSimpArgs false
/-- A row of numbers in a block of numbers: it stays while rows of other types grow. -/
def KeptRow (w : World) (A : Option Addr) (xs : List Int) : Prop :=
  xs.length = 0 ∨ ∃ g cs fr, A = some ⟨g, 0, none⟩ ∧ w.heap[g]? = some (.cells cs 3 fr) ∧ ∀ (j : Nat) (u : Value), (xs.map (Value.int .i64))[j]? = some u → cs[j]? = some u
theorem KeptRow.keep {w w' : World} {A : Option Addr} {xs : List Int} (h : KeptRow w A xs) (hk : ∀ (g : Nat) (cs : Array Value) (fr : Nat × Nat), w.heap[g]? = some (.cells cs 3 fr) → w'.heap[g]? = some (.cells cs 3 fr)) : KeptRow w' A xs :=
  h.elim .inl fun ⟨g, cs, fr, h1, h2, h3⟩ => .inr ⟨g, cs, fr, h1, hk g cs fr h2, h3⟩
theorem heap_some_lt {w : World} {g : Nat} {o : Obj} (h : w.heap[g]? = some o) : g < w.heap.size := by
  rcases Nat.lt_or_ge g w.heap.size with h1 | h1
  · exact h1
  · rw [Array.getElem?_eq_none h1] at h; cases h
theorem KeptRow.below {w w' : World} {A : Option Addr} {xs : List Int} (h : KeptRow w A xs) (hb : Below w.heap.size w w') : KeptRow w' A xs :=
  h.keep fun g cs fr hg => (hb.block g (heap_some_lt hg)).trans hg
theorem KeptRow.belowT {w w' : World} {B : Nat} {A : Option Addr} {xs : List Int} (h : KeptRow w A xs) (hb : BelowT B w w') : KeptRow w' A xs :=
  h.keep fun g cs fr hg => hb.keep g cs _ fr hg (by decide)
theorem KeptRow.grown {w w' : World} {A : Option Addr} {xs : List Int} (h : KeptRow w A xs) {base : Nat} {e : TypeId} {size n : Nat} {v : Value} {ys : List Value} (ho : w.ownsRow base e size v n ys) (hg : w.grownBy w' v.ownBlock) (he : 3 ≠ e) : KeptRow w' A xs :=
  h.keep fun g cs fr hh => box_kept ho hg hh he
theorem KeptRow.row {w : World} {A : Option Addr} {xs : List Int} (h : KeptRow w A xs) : Row w w.heap.size 1 A xs.length (xs.map (Value.int .i64)) := by
  refine ⟨by simp, fun h0 => ?_⟩
  rcases h with h | ⟨g, cs, fr, rfl, h2, h3⟩
  · omega
  · refine ⟨g, 0, rfl, heap_some_lt h2, fun j u hu => ?_⟩
    rw [Nat.zero_add, cell_of_heap h2]
    exact h3 j u hu
theorem KeptRow.of_own {w : World} {base : Nat} {A : Option Addr} {n c : Nat} {xs : List Int} (h : w.ownsRow base 3 1 (.slice A n c) n (xs.map (Value.int .i64))) : KeptRow w A xs := by
  rcases h.2 with ⟨_, h0⟩ | ⟨g, cap, cur, hv, hb, hg, h1, h2, h3, h4⟩
  · exact .inl (by have := h.1; simp at this; omega)
  · injection hv with hv1 hv2 hv3
    refine .inr ⟨g, cur, (0, 0), hv1, hg, fun j u hu => ?_⟩
    rw [← h4, List.getElem?_take] at hu
    split at hu
    · simpa using hu
    · cases hu
/-- A spot, as it lies. -/
structure SpotD where
  at_ : Nat
  st : List Int
  A : Option Addr
  c : Nat
def SpotD.cells (x : SpotD) : List Value := [.int .i64 x.at_, .slice x.A x.st.length x.c]
def SpotD.plain (x : SpotD) : Nat × List Int := (x.at_, x.st)
theorem SpotD.cells_length (x : SpotD) : x.cells.length = 2 := rfl
structure SpotD.Ok (w : World) (x : SpotD) : Prop where
  le : x.st.length ≤ x.c
  max : x.c ≤ 9223372036854775807
  kept : KeptRow w x.A x.st
theorem po_drop {cells : List CellD} {st : List Int} {funcs at_ : Int} {sp : List (Nat × List Int)} (h0 : st ≠ []) : PickOk cells st funcs at_ sp 22 0 0 ∧ doesU cells 22 (0 : Int).toNat st = some st.dropLast := by
  rcases nil_or_app st with rfl | ⟨r, b, rfl⟩
  · exact absurd rfl h0
  have e : doesU cells 22 (0 : Int).toNat (r ++ [b]) = some r := by simp [doesU, takesN, does1]
  refine ⟨⟨by decide, by decide, by decide, by omega, by omega, by unfold I64; omega, rfl, ⟨_, e⟩, (fun h => absurd h (by decide)), (fun h => absurd h (by decide)), .inr (.inr (.inr (.inr (.inr ?_))))⟩, by simpa using e⟩
  intro o ho
  rw [e] at ho
  obtain rfl := Option.some.inj ho
  simp
/-- Code that is made: its spots, its bytes, the stack behind it. -/
inductive Made (cells : List CellD) (funcs : Int) : List (Nat × List Int) → List Int → List Int → Prop
  | nil : Made cells funcs [] [] []
  | snoc {sp : List (Nat × List Int)} {bs st out : List Int} {s a N : Int} (h : Made cells funcs sp bs st) (hp : PickOk cells st funcs bs.length sp s a N) (hd : doesU cells s a.toNat st = some out) (ho : out.length ≤ 8) : Made cells funcs (sp ++ [(bs.length, st)]) (bs ++ encB s a N) out
theorem encB_pos (s a N : Int) : 0 < (encB s a N).length ∧ (encB s a N).length ≤ 10 := by
  unfold encB
  constructor
  · simp
  · by_cases h1 : s = 1
    · simp only [h1, if_true, List.length_cons, List.length_append, nb8_length]
      split <;> simp
    · simp only [h1, if_false, List.length_cons, List.length_append]
      split <;> simp
/-- Kinds of cells are kinds of values. -/
def KindsOk (cells : List CellD) : Prop := ∀ x ∈ cells, 1 ≤ x.kind ∧ x.kind ≤ 6
theorem cellD_kind {cells : List CellD} (h : KindsOk cells) {a : Nat} (ha : a < cells.length) : 1 ≤ (cellD cells a).kind ∧ (cellD cells a).kind ≤ 6 := by
  unfold cellD
  rw [if_neg (by omega), Int.toNat_natCast, List.getD_eq_getElem?_getD, List.getElem?_eq_getElem ha]
  exact h _ (List.getElem_mem ha)
theorem doesU_kinds {cells : List CellD} (hk : KindsOk cells) {st out : List Int} {s a N : Int} (hst : ∀ x ∈ st, 1 ≤ x ∧ x ≤ 6) (hb : bearsB 2 3 cells s a N = true) (h0 : 0 ≤ a) (h6 : s ≠ 2 ∨ True) (hd : doesU cells s a.toNat st = some out) : ∀ x ∈ out, 1 ≤ x ∧ x ≤ 6 := by
  obtain ⟨an, rfl⟩ : ∃ an : Nat, a = an := ⟨a.toNat, by omega⟩
  rw [Int.toNat_natCast] at hd
  have app : ∀ (l : List Int) (y : Int), (∀ x ∈ l, 1 ≤ x ∧ x ≤ 6) → 1 ≤ y ∧ y ≤ 6 → ∀ x ∈ l ++ [y], 1 ≤ x ∧ x ≤ 6 := by
    intro l y h1 h2 x hx
    rcases List.mem_append.1 hx with hx | hx
    · exact h1 x hx
    · simp at hx; subst hx; exact h2
  unfold doesU at hd
  split at hd
  · unfold does0 at hd
    split at hd
    · rename_i hs
      obtain rfl := Option.some.inj hd
      refine app _ _ hst ?_
      unfold putsP
      split
      · rename_i h1
        subst h1
        simp [bearsB, isVal] at hb
        omega
      split
      · omega
      split
      · rename_i h3
        subst h3
        simp [bearsB] at hb
        exact cellD_kind hk (by omega)
      · omega
    · obtain rfl := Option.some.inj hd
      exact hst
  split at hd
  · rcases nil_or_app st with rfl | ⟨r, b, rfl⟩
    · cases hd
    have hr : ∀ x ∈ r, 1 ≤ x ∧ x ≤ 6 := fun x hx => hst x (by simp [hx])
    have hbk := hst b (by simp)
    have hd1 : does1 cells s an r b = some out := by simpa using hd
    clear hd
    have hd := hd1
    clear hd1
    unfold does1 at hd
    split at hd
    · split at hd
      · obtain rfl := Option.some.inj hd; exact hr
      · cases hd
    split at hd
    · rename_i h5
      subst h5
      split at hd
      · obtain rfl := Option.some.inj hd
        refine app _ _ hr (cellD_kind hk ?_)
        simp [bearsB] at hb
        omega
      · cases hd
    split at hd
    · split at hd
      · obtain rfl := Option.some.inj hd; exact app _ _ hr (by omega)
      · cases hd
    split at hd
    · split at hd
      · obtain rfl := Option.some.inj hd; exact hr
      · cases hd
    split at hd
    · obtain rfl := Option.some.inj hd
      have e : r ++ [b, b] = (r ++ [b]) ++ [b] := by simp
      rw [e]
      exact app _ _ hst hbk
    split at hd
    · obtain rfl := Option.some.inj hd; exact hr
    split at hd
    · rename_i h23
      subst h23
      obtain rfl := Option.some.inj hd
      refine app _ _ hr ?_
      simp [bearsB, isVal] at hb
      omega
    split at hd
    · split at hd
      · obtain rfl := Option.some.inj hd; exact hr
      · cases hd
    · cases hd
  · rcases nil_or_app st with rfl | ⟨r, b, rfl⟩
    · cases hd
    rcases nil_or_app r with rfl | ⟨r', c', rfl⟩
    · simp at hd
    have hr : ∀ x ∈ r', 1 ≤ x ∧ x ≤ 6 := fun x hx => hst x (by simp [hx])
    have hc := hst c' (by simp)
    have hd1 : does2 cells s an r' c' b = some out := by simpa using hd
    clear hd
    have hd := hd1
    clear hd1
    unfold does2 at hd
    split at hd
    · split at hd
      · obtain rfl := Option.some.inj hd; exact hr
      · cases hd
    · split at hd
      · rename_i hk0
        obtain rfl := Option.some.inj hd
        refine app _ _ hr ?_
        unfold kindE at hk0
        unfold kindM
        split at hk0
        · split at hk0
          · rename_i h1 h2
            rw [if_pos h1, if_pos h2]
            split
            · omega
            · exact hc
          · cases hk0
        · cases hk0
      · cases hd
structure MadeOk (sp : List (Nat × List Int)) (bs st : List Int) : Prop where
  kinds : ∀ x ∈ st, 1 ≤ x ∧ x ≤ 6
  st8 : st.length ≤ 8
  at_ : ∀ x ∈ sp, x.1 < bs.length ∧ x.2.length ≤ 8 ∧ ∀ y ∈ x.2, 1 ≤ y ∧ y ≤ 6
  len : sp.length ≤ bs.length
  bytes : ∀ x ∈ bs, 0 ≤ x ∧ x < 256
theorem encB_bytes (s a N : Int) : ∀ x ∈ encB s a N, 0 ≤ x ∧ x < 256 := by
  intro x hx
  unfold encB at hx
  rcases List.mem_cons.1 hx with rfl | hx
  · omega
  rcases List.mem_append.1 hx with hx | hx
  · split at hx
    · simp at hx; omega
    · cases hx
  · split at hx
    · simp only [nb8, List.mem_map] at hx
      obtain ⟨k, _, rfl⟩ := hx
      omega
    · cases hx
theorem Made.ok {cells : List CellD} (hk : KindsOk cells) {funcs : Int} {sp : List (Nat × List Int)} {bs st : List Int} (h : Made cells funcs sp bs st) : MadeOk sp bs st := by
  induction h with
  | nil => exact ⟨by simp, by simp, by simp, by simp, by simp⟩
  | @snoc sp bs st out s a N h hp hd ho ih =>
    have hl := encB_pos s a N
    refine ⟨doesU_kinds hk ih.kinds hp.bears hp.a0 (.inr trivial) hd, ho, fun x hx => ?_, ?_, fun x hx => ?_⟩
    · rw [List.length_append]
      rcases List.mem_append.1 hx with hx | hx
      · have := ih.at_ x hx
        exact ⟨by omega, this.2⟩
      · simp at hx
        subst hx
        exact ⟨by simp; omega, ih.st8, ih.kinds⟩
    · have := ih.len
      simp
      omega
    · rcases List.mem_append.1 hx with hx | hx
      · exact ih.bytes x hx
      · exact encB_bytes s a N x hx
end Go.Proofs.YtngobbbinacomaaDoor
