/- Chapter 10: the document's Bytes. -/
import Derived.Test.YtngobbbinacomaaDoorMA10
import Derived.Test.YtngobbbinacomaaDoorMA11
import Derived.Deep.RegionLaw
namespace Go.Proofs.YtngobbbinacomaaDoor.c10
open Go.Proofs.YtngobbbinacomaaDoor
open Go.RowKit
set_option linter.unusedVariables false
set_option linter.unusedSimpArgs false

theorem byteInfo : (Tryd.prog.info? 5).map (fun i => (i.zero, i.size, i.bytes)) = some (some (.int .u8 0), 1, 1) := by kernel_rfl

theorem byteRow : Tryd.prog.underlying 44 = some (.slice 5) := by kernel_rfl

/-- Bytes as cells. -/
def u8s (ys : List Int) : List Value := ys.map (Value.int .u8)

theorem u8s_app (ys zs : List Int) : u8s (ys ++ zs) = u8s ys ++ u8s zs := by simp [u8s]

theorem u8s_one (ys : List Int) : ∀ u ∈ u8s ys, u.oneCell' = true := by
  intro u hu
  simp only [u8s, List.mem_map] at hu
  obtain ⟨y, _, rfl⟩ := hu
  rfl

theorem one_cellB {w : World} {b : Nat} {x : Int} (h : w.cell? ⟨b, 0, none⟩ = some (.int .u8 x)) : ∀ j u, (u8s [x])[j]? = some u → w.cell? ((⟨b, 0, none⟩ : Addr).add j) = some u := by
  intro j u hj
  have hj' : j < 1 := by have := (List.getElem?_eq_some_iff.1 hj).1; simpa [u8s] using this
  obtain rfl : j = 0 := by omega
  rw [Addr.add_lit]
  simp [u8s] at hj
  subst hj
  exact h

theorem grown_below {B : Nat} {a w w' : World} {base : Nat} {e : TypeId} {size n : Nat} {v : Value} {xs : List Value} (h : Below B a w) (ho : w.ownsRow base e size v n xs) (hg : w.grownBy w' v.ownBlock) (hB : B ≤ base) (hs : B ≤ w.heap.size) : Below B a w' :=
  h.grown hg hs (fun k hk => by have := (ho.lt k hk).1; omega)

/-- The first k bytes of a number. -/
def nb8 (N : Int) (k : Nat) : List Int := (List.range k).map (fun k => IntKind.u64.wrap N / 2 ^ (8 * k) % 256)

theorem nb8_succ (N : Int) (k : Nat) : nb8 N (k + 1) = nb8 N k ++ [IntKind.u64.wrap N / 2 ^ (8 * k) % 256] := by
  simp [nb8, List.range_succ]

theorem nb8_length (N : Int) (k : Nat) : (nb8 N k).length = k := by simp [nb8]

/-- The bytes of an instruction. -/
def encB (s a N : Int) : List Int := (s % 256) :: ((if 0 < bearsN s then [a % 256] else []) ++ (if s = 1 then nb8 N 8 else []))

theorem cell_of_heap {w : World} {g : Nat} {cs : Array Value} {T : TypeId} {fr : Nat × Nat} (h : w.heap[g]? = some (.cells cs T fr)) (j : Nat) : w.cell? ⟨g, j, none⟩ = cs[j]? := by
  simp [World.cell?, h]

/-- A row of its own is no block of another type. -/
theorem owns_other {w : World} {base : Nat} {e : TypeId} {size n : Nat} {v : Value} {xs : List Value} (ho : w.ownsRow base e size v n xs) {g : Nat} {cs : Array Value} {T : TypeId} {fr : Nat × Nat} (h : w.heap[g]? = some (.cells cs T fr)) (hT : T ≠ e) : v.ownBlock ≠ some g := by
  intro hg
  rcases ho.2 with ⟨rfl, _⟩ | ⟨g', cap, cur, rfl, _, hh, _⟩
  · simp [Value.ownBlock] at hg
  · simp [Value.ownBlock] at hg
    subst hg
    rw [hh] at h
    simp at h
    exact hT h.2.1.symm

theorem box_kept {w w' : World} {base : Nat} {e : TypeId} {size n : Nat} {v : Value} {xs : List Value} (ho : w.ownsRow base e size v n xs) (hg : w.grownBy w' v.ownBlock) {g : Nat} {cs : Array Value} {T : TypeId} {fr : Nat × Nat} (h : w.heap[g]? = some (.cells cs T fr)) (hT : T ≠ e) : w'.heap[g]? = some (.cells cs T fr) := by
  have hlt : g < w.heap.size := by
    rcases Nat.lt_or_ge g w.heap.size with h1 | h1
    · exact h1
    · rw [Array.getElem?_eq_none h1] at h; cases h
  rw [hg.block g hlt (fun e' => owns_other ho h hT e'.symm)]
  exact h

theorem heap_new (w : World) (o : Obj) : (w.alloc o).heap[w.heap.size]? = some o := by
  show (w.heap.push o)[w.heap.size]? = _
  simp

theorem heap_alloc {w : World} {g : Nat} {x : Obj} (h : w.heap[g]? = some x) (o : Obj) : (w.alloc o).heap[g]? = some x := by
  have hlt : g < w.heap.size := by
    rcases Nat.lt_or_ge g w.heap.size with h1 | h1
    · exact h1
    · rw [Array.getElem?_eq_none h1] at h; cases h
  rw [Below.heap_alloc _ _ _ hlt]
  exact h

set_option maxHeartbeats 8000000 in
theorem rbytes_bare (v : Value) (n base : Nat) (ys : List Int) (a0 a1 s a N : Int) (w : World) (hn : n ≤ 50000) (ho : w.ownsRow base 5 1 v n (u8s ys)) (hbase : base ≤ w.heap.size) (hb : bearsN s = 0) :
    Calls Tryd.prog 33 #[v, .agg #[.int .i64 a0, .int .i64 a1, .int .i64 s, .int .i64 a, .int .i64 N]] w fun e w' =>
      (∃ v', e = .returned v' ∧ w'.ownsRow base 5 1 v' (n + 1) (u8s (ys ++ [s % 256]))) ∧ Below base w w' := by
  obtain ⟨i0, hi, hz0, hz1, hz2⟩ := info_parts byteInfo
  have t22 := byteRow
  have HO := Lib.hid ho
  clear ho
  have HNB := Lib.hid hb
  clear hb
  go_enter Tryd.func33, Tryd.ntmps33
  have BX := Lib.hid (show (w.alloc (.cells #[.int .i64 a0, .int .i64 a1, .int .i64 s, .int .i64 a, .int .i64 N] 67)).heap[w.heap.size]? = some (.cells #[.int .i64 a0, .int .i64 a1, .int .i64 s, .int .i64 a, .int .i64 N] 67) from heap_new _ _)
  have HOA := Lib.hid (HO.out.alloc (.cells #[.int .i64 a0, .int .i64 a1, .int .i64 s, .int .i64 a, .int .i64 N] 67))
  have HB := Lib.hid ((Below.refl base w).alloc hbase (.cells #[.int .i64 a0, .int .i64 a1, .int .i64 s, .int .i64 a, .int .i64 N] 67))
  go_wp2_with (at_builtin; refine wpList_append_own _ rfl _ _ 44 rfl base 5 i0 _ 1 1 t22 hi hz0 hz1 hz2 rfl (by decide) _ (n) (u8s ys) rfl (HOA.out.alloc _) ⟨_, 0, none⟩ 1 1 (u8s [s % 256]) rfl rfl (one_cellB (by go_simp)) (u8s_one _) (by unfold maxLen; omega) (by omega) (by have hq := HB.out.size; first | omega | (simp; done) | (simp; omega)) ?_; intro v1 w1 hown hgrow hnil; have HB1 := Lib.hid (grown_below (B := base) (HB.out.alloc (by have hq := HB.out.size; omega) _) (HOA.out.alloc _) hgrow (Nat.le_refl _) (by have hq := HB.out.size; first | omega | (simp; done) | (simp; omega))); have BX1 := Lib.hid (box_kept (HOA.out.alloc _) hgrow (heap_alloc BX.out _) (by decide)); have HO1 := Lib.hid hown; have m2 := cell_of_heap BX1.out 2; have m3 := cell_of_heap BX1.out 3; have m4 := cell_of_heap BX1.out 4; simp at m2 m3 m4; clear hown hgrow hnil)
  go_wp2_with fail
  refine (rbears_is HNB.out _).mono ?_
  rintro e _ ⟨rfl, rfl⟩
  go_wp2_with fail
  go_loop [0, 6] (fun b i => b = v1 ∧ i = .int .i64 0) (fun _ _ => 0)
  case atStart => exact ⟨rfl, rfl⟩
  case round =>
    obtain ⟨rfl, rfl⟩ := hrel
    go_wp2
    go_ret
    exact ⟨⟨_, rfl, by rw [u8s_app]; exact HO1.out⟩, HB1.out⟩

set_option maxHeartbeats 8000000 in
theorem rbytes_one (v : Value) (n base : Nat) (ys : List Int) (a0 a1 s a N : Int) (w : World) (hn : n ≤ 50000) (ho : w.ownsRow base 5 1 v n (u8s ys)) (hbase : base ≤ w.heap.size) (hb : bearsN s = 1) :
    Calls Tryd.prog 33 #[v, .agg #[.int .i64 a0, .int .i64 a1, .int .i64 s, .int .i64 a, .int .i64 N]] w fun e w' =>
      (∃ v', e = .returned v' ∧ w'.ownsRow base 5 1 v' (n + 2) (u8s (ys ++ [s % 256, a % 256]))) ∧ Below base w w' := by
  obtain ⟨i0, hi, hz0, hz1, hz2⟩ := info_parts byteInfo
  have t22 := byteRow
  have HO := Lib.hid ho
  clear ho
  have HNB := Lib.hid hb
  clear hb
  go_enter Tryd.func33, Tryd.ntmps33
  have BX := Lib.hid (show (w.alloc (.cells #[.int .i64 a0, .int .i64 a1, .int .i64 s, .int .i64 a, .int .i64 N] 67)).heap[w.heap.size]? = some (.cells #[.int .i64 a0, .int .i64 a1, .int .i64 s, .int .i64 a, .int .i64 N] 67) from heap_new _ _)
  have HOA := Lib.hid (HO.out.alloc (.cells #[.int .i64 a0, .int .i64 a1, .int .i64 s, .int .i64 a, .int .i64 N] 67))
  have HB := Lib.hid ((Below.refl base w).alloc hbase (.cells #[.int .i64 a0, .int .i64 a1, .int .i64 s, .int .i64 a, .int .i64 N] 67))
  go_wp2_with (at_builtin; refine wpList_append_own _ rfl _ _ 44 rfl base 5 i0 _ 1 1 t22 hi hz0 hz1 hz2 rfl (by decide) _ (n) (u8s ys) rfl (HOA.out.alloc _) ⟨_, 0, none⟩ 1 1 (u8s [s % 256]) rfl rfl (one_cellB (by go_simp)) (u8s_one _) (by unfold maxLen; omega) (by omega) (by have hq := HB.out.size; first | omega | (simp; done) | (simp; omega)) ?_; intro v1 w1 hown hgrow hnil; have HB1 := Lib.hid (grown_below (B := base) (HB.out.alloc (by have hq := HB.out.size; omega) _) (HOA.out.alloc _) hgrow (Nat.le_refl _) (by have hq := HB.out.size; first | omega | (simp; done) | (simp; omega))); have BX1 := Lib.hid (box_kept (HOA.out.alloc _) hgrow (heap_alloc BX.out _) (by decide)); have HO1 := Lib.hid hown; have m2 := cell_of_heap BX1.out 2; have m3 := cell_of_heap BX1.out 3; have m4 := cell_of_heap BX1.out 4; simp at m2 m3 m4; clear hown hgrow hnil)
  go_wp2_with fail
  refine (rbears_is HNB.out _).mono ?_
  rintro e _ ⟨rfl, rfl⟩
  go_wp2_with (at_builtin; refine wpList_append_own _ rfl _ _ 44 rfl base 5 i0 _ 1 1 t22 hi hz0 hz1 hz2 rfl (by decide) _ (n + 1) (u8s ys ++ u8s [s % 256]) rfl (HO1.out.alloc _) ⟨_, 0, none⟩ 1 1 (u8s [a % 256]) rfl rfl (one_cellB (by go_simp)) (u8s_one _) (by unfold maxLen; omega) (by omega) (by have hq := HB1.out.size; first | omega | (simp; done) | (simp; omega)) ?_; intro v2 w2 hown hgrow hnil; have HB2 := Lib.hid (grown_below (B := base) (HB1.out.alloc (by have hq := HB1.out.size; omega) _) (HO1.out.alloc _) hgrow (Nat.le_refl _) (by have hq := HB1.out.size; first | omega | (simp; done) | (simp; omega))); have BX2 := Lib.hid (box_kept (HO1.out.alloc _) hgrow (heap_alloc BX1.out _) (by decide)); have HO2 := Lib.hid hown; have m2 := cell_of_heap BX2.out 2; have m3 := cell_of_heap BX2.out 3; have m4 := cell_of_heap BX2.out 4; simp at m2 m3 m4; clear hown hgrow hnil)
  go_wp2_with fail
  go_loop [0, 6] (fun b i => b = v2 ∧ i = .int .i64 0) (fun _ _ => 0)
  case atStart => exact ⟨rfl, rfl⟩
  case round =>
    obtain ⟨rfl, rfl⟩ := hrel
    go_wp2
    go_ret
    exact ⟨⟨_, rfl, by rw [show ys ++ [s % 256, a % 256] = ys ++ [s % 256] ++ [a % 256] by simp, u8s_app, u8s_app]; exact HO2.out⟩, HB2.out⟩

set_option maxHeartbeats 8000000 in
theorem rbytes_push (v : Value) (n base : Nat) (ys : List Int) (a0 a1 a N : Int) (w : World) (hn : n ≤ 50000) (ho : w.ownsRow base 5 1 v n (u8s ys)) (hbase : base ≤ w.heap.size)  :
    Calls Tryd.prog 33 #[v, .agg #[.int .i64 a0, .int .i64 a1, .int .i64 1, .int .i64 a, .int .i64 N]] w fun e w' =>
      (∃ v', e = .returned v' ∧ w'.ownsRow base 5 1 v' (n + 10) (u8s (ys ++ [1 % 256, a % 256] ++ nb8 N 8))) ∧ Below base w w' := by
  obtain ⟨i0, hi, hz0, hz1, hz2⟩ := info_parts byteInfo
  have t22 := byteRow
  have HO := Lib.hid ho
  clear ho
  have HNB := Lib.hid (show bearsN 1 = 9 from rfl)
  go_enter Tryd.func33, Tryd.ntmps33
  have BX := Lib.hid (show (w.alloc (.cells #[.int .i64 a0, .int .i64 a1, .int .i64 1, .int .i64 a, .int .i64 N] 67)).heap[w.heap.size]? = some (.cells #[.int .i64 a0, .int .i64 a1, .int .i64 1, .int .i64 a, .int .i64 N] 67) from heap_new _ _)
  have HOA := Lib.hid (HO.out.alloc (.cells #[.int .i64 a0, .int .i64 a1, .int .i64 1, .int .i64 a, .int .i64 N] 67))
  have HB := Lib.hid ((Below.refl base w).alloc hbase (.cells #[.int .i64 a0, .int .i64 a1, .int .i64 1, .int .i64 a, .int .i64 N] 67))
  go_wp2_with (at_builtin; refine wpList_append_own _ rfl _ _ 44 rfl base 5 i0 _ 1 1 t22 hi hz0 hz1 hz2 rfl (by decide) _ (n) (u8s ys) rfl (HOA.out.alloc _) ⟨_, 0, none⟩ 1 1 (u8s [1 % 256]) rfl rfl (one_cellB (by go_simp)) (u8s_one _) (by unfold maxLen; omega) (by omega) (by have hq := HB.out.size; first | omega | (simp; done) | (simp; omega)) ?_; intro v1 w1 hown hgrow hnil; have HB1 := Lib.hid (grown_below (B := base) (HB.out.alloc (by have hq := HB.out.size; omega) _) (HOA.out.alloc _) hgrow (Nat.le_refl _) (by have hq := HB.out.size; first | omega | (simp; done) | (simp; omega))); have BX1 := Lib.hid (box_kept (HOA.out.alloc _) hgrow (heap_alloc BX.out _) (by decide)); have HO1 := Lib.hid hown; have m2 := cell_of_heap BX1.out 2; have m3 := cell_of_heap BX1.out 3; have m4 := cell_of_heap BX1.out 4; simp at m2 m3 m4; clear hown hgrow hnil)
  go_wp2_with fail
  refine (rbears_is HNB.out _).mono ?_
  rintro e _ ⟨rfl, rfl⟩
  go_wp2_with (at_builtin; refine wpList_append_own _ rfl _ _ 44 rfl base 5 i0 _ 1 1 t22 hi hz0 hz1 hz2 rfl (by decide) _ (n + 1) (u8s ys ++ u8s [1 % 256]) rfl (HO1.out.alloc _) ⟨_, 0, none⟩ 1 1 (u8s [a % 256]) rfl rfl (one_cellB (by go_simp)) (u8s_one _) (by unfold maxLen; omega) (by omega) (by have hq := HB1.out.size; first | omega | (simp; done) | (simp; omega)) ?_; intro v2 w2 hown hgrow hnil; have HB2 := Lib.hid (grown_below (B := base) (HB1.out.alloc (by have hq := HB1.out.size; omega) _) (HO1.out.alloc _) hgrow (Nat.le_refl _) (by have hq := HB1.out.size; first | omega | (simp; done) | (simp; omega))); have BX2 := Lib.hid (box_kept (HO1.out.alloc _) hgrow (heap_alloc BX1.out _) (by decide)); have HO2 := Lib.hid hown; have m2 := cell_of_heap BX2.out 2; have m3 := cell_of_heap BX2.out 3; have m4 := cell_of_heap BX2.out 4; simp at m2 m3 m4; clear hown hgrow hnil)
  go_wp2_with fail
  go_loopw [0, 6] (fun out i wr => ∃ k : Nat, k ≤ 8 ∧ i = .int .i64 k ∧ wr.ownsRow base 5 1 out (n + 2 + k) (u8s (ys ++ [1 % 256, a % 256] ++ nb8 N k)) ∧ Below base w wr ∧ wr.heap[w.heap.size]? = some (.cells #[.int .i64 a0, .int .i64 a1, .int .i64 1, .int .i64 a, .int .i64 N] 67)) (fun _ i _ => 8 - (intOf i).toNat)
  case atStart =>
    refine ⟨0, by omega, rfl, ?_, HB2.out, BX2.out⟩
    have := HO2.out
    simp only [u8s, nb8, List.map_append, List.append_assoc] at this ⊢
    simpa using this
  case round =>
    obtain ⟨k, hk, rfl, hown, hbw, hbx⟩ := hrel
    have HOW := Lib.hid hown
    have HBW := Lib.hid hbw
    have BXW := Lib.hid hbx
    clear hown hbw hbx m2 m3 m4
    have k4 := cell_of_heap BXW.out 4
    simp at k4
    by_cases hlt : k < 8
    · have hu1 : IntKind.u64.wrap (k : Int) = k := wrap_u64 _ (by omega) (by omega)
      have hu2 : IntKind.u64.wrap (8 * (k : Int)) = 8 * k := wrap_u64 _ (by omega) (by omega)
      have hk9 : (8 * (k : Int)).toNat = 8 * k := by omega
      have hk0 : (0 : Int) ≤ 8 * k := by omega
      have hlt' : (k : Int) < 8 := by omega
      go_wp2_with (at_builtin; refine wpList_append_own _ rfl _ _ 44 rfl base 5 i0 _ 1 1 t22 hi hz0 hz1 hz2 rfl (by decide) _ (n + 2 + k) (u8s (ys ++ [1 % 256, a % 256] ++ nb8 N k)) rfl (HOW.out.alloc _) ⟨_, 0, none⟩ 1 1 (u8s [IntKind.u64.wrap N / 2 ^ (8 * k) % 256]) rfl rfl (one_cellB (by go_simp)) (u8s_one _) (by unfold maxLen; omega) (by omega) (by have hq := HBW.out.size; first | omega | (simp; done) | (simp; omega)) ?_; intro v9 w9 hown hgrow hnil; have HB9 := Lib.hid (grown_below (B := base) (HBW.out.alloc (by have hq := HBW.out.size; omega) _) (HOW.out.alloc _) hgrow (Nat.le_refl _) (by have hq := HBW.out.size; first | omega | (simp; done) | (simp; omega))); have BX9 := Lib.hid (box_kept (HOW.out.alloc _) hgrow (heap_alloc BXW.out _) (by decide)); have HO9 := Lib.hid hown; have m2 := cell_of_heap BX9.out 2; have m3 := cell_of_heap BX9.out 3; have m4 := cell_of_heap BX9.out 4; simp at m2 m3 m4; clear hown hgrow hnil)
      go_wp2
      go_roundw
      case rel =>
        refine ⟨k + 1, by omega, by go_num, ?_, HB9.out, BX9.out⟩
        have := HO9.out
        rw [← u8s_app, List.append_assoc, ← nb8_succ] at this
        exact this
      case measure => simp [intOf]; omega
    · have : k = 8 := by omega
      subst this
      clear hlt
      have hge : ¬ ((8 : Nat) : Int) < 8 := by omega
      go_wp2
      go_ret
      exact ⟨⟨_, rfl, by simpa using HOW.out⟩, HBW.out⟩

theorem rbytes_any (v : Value) (n base : Nat) (ys : List Int) (a0 a1 s a N : Int) (w : World) (hn : n ≤ 50000) (ho : w.ownsRow base 5 1 v n (u8s ys)) (hbase : base ≤ w.heap.size) :
    Calls Tryd.prog 33 #[v, .agg #[.int .i64 a0, .int .i64 a1, .int .i64 s, .int .i64 a, .int .i64 N]] w fun e w' =>
      (∃ v', e = .returned v' ∧ w'.ownsRow base 5 1 v' (n + (encB s a N).length) (u8s (ys ++ encB s a N))) ∧ Below base w w' := by
  rcases bearsN_ways s with ⟨h1, h2⟩ | ⟨h1, h2⟩ | ⟨h1, h2⟩
  · have e : encB s a N = [s % 256] := by simp [encB, h1, h2]
    rw [e]
    exact rbytes_bare v n base ys a0 a1 s a N w hn ho hbase h1
  · have e : encB s a N = [s % 256, a % 256] := by simp [encB, h1, h2]
    rw [e]
    exact rbytes_one v n base ys a0 a1 s a N w hn ho hbase h1
  · have e : encB s a N = [1 % 256, a % 256] ++ nb8 N 8 := by simp [encB, h2, show bearsN 1 = 9 from rfl]
    rw [e, show ([1 % 256, a % 256] ++ nb8 N 8).length = 10 by simp [nb8_length], ← List.append_assoc, h2]
    exact rbytes_push v n base ys a0 a1 a N w hn ho hbase
end Go.Proofs.YtngobbbinacomaaDoor.c10
