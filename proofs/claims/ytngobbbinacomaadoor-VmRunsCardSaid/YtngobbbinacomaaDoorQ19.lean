/- Chapter 12's programs of numbers: what may be picked, plain; small functions. -/
import Derived.Test.YtngobbbinacomaaDoorQ12
import Derived.Test.YtngobbbinacomaaDoorQ18
namespace Go.Proofs.YtngobbbinacomaaDoor
open Go.RowKit Go.Proofs.YtngobbbinacomaaDoor.c11 Go.Proofs.YtngobbbinacomaaDoor.c10
set_option linter.unusedVariables false
set_option linter.unusedSimpArgs false
attribute [local go_sem ↓] Go.wp_at_zero Go.wp_at_succ
theorem nil_or_app (l : List Int) : l = [] ∨ ∃ r b, l = r ++ [b] := by
  rcases List.eq_nil_or_concat l with h | ⟨r, b, h⟩
  · exact .inl h
  · exact .inr ⟨r, b, by rw [h]; simp⟩
/-- The stack behind an instruction, if its kinds fit, however high it is. -/
def doesU (cells : List CellD) (s : Int) (a : Nat) (st : List Int) : Option (List Int) :=
  if takesN s = 0 then does0 cells s a st
  else if takesN s = 1 then (match st.reverse with | b :: r => does1 cells s a r.reverse b | [] => none)
  else (match st.reverse with | b :: aa :: r => does2 cells s a r.reverse aa b | _ => none)
theorem doesP_of {cells : List CellD} {s : Int} {a : Nat} {st o : List Int} (h : doesU cells s a st = some o) : doesP cells s a st = if o.length ≤ 8 then some o else none := by
  show (doesU cells s a st).bind _ = _
  rw [h]
  rfl
/-- An instruction that may stand there, but for the height of the stack. -/
structure PickOk (cells : List CellD) (st : List Int) (funcs : Int) (at_ : Int) (sp : List (Nat × List Int)) (s a N : Int) : Prop where
  s0 : 0 < s
  s29 : s ≤ 27
  s18 : s ≠ 18
  a0 : 0 ≤ a
  a256 : a < 256
  nI : I64 N
  bears : bearsB 2 3 cells s a N = true
  ok : ∃ o, doesU cells s a.toNat st = some o
  jz : s = 19 → a = at_ + 2 ∨ ∃ x ∈ sp, a = x.1 ∧ x.2 = st.dropLast
  call : s = 20 → 1 ≤ a ∧ a ≤ funcs
  up : s = 1 ∨ s = 3 ∨ s = 24 ∨ s = 26 ∨ s = 21 ∨ ∀ o, doesU cells s a.toNat st = some o → o.length ≤ st.length
theorem within12_any (a n : Int) (hn : 0 < n) (hn' : n ≤ 4611686018427387904) (w : World) :
    Calls Tryd.prog 35 #[.int .i64 a, .int .i64 n] w fun e w' => e = .returned (.int .i64 (a % n)) ∧ w = w' := by
  have h1 := Int.emod_nonneg a (show n ≠ 0 by omega)
  have h2 := Int.emod_lt_of_pos a hn
  have h3 : a.tmod n = if 0 ≤ a ∨ a % n = 0 then a % n else a % n - n := by
    rw [Int.tmod_eq_emod]
    by_cases h : 0 ≤ a ∨ n ∣ a
    · rw [if_pos h, if_pos]
      · omega
      · rcases h with h | h
        · exact .inl h
        · exact .inr (Int.emod_eq_zero_of_dvd h)
    · rw [if_neg h, if_neg]
      · rw [Int.natAbs_of_nonneg (by omega)]
      · intro hh
        rcases hh with hh | hh
        · exact h (.inl hh)
        · exact h (.inr (Int.dvd_of_emod_eq_zero hh))
  have h4 : ¬ n = 0 := by omega
  by_cases hneg : a.tmod n < 0
  · have H : Hid (a.tmod n + n = a % n) := Lib.hid (by split at h3 <;> omega)
    have hb : -n < a.tmod n := by split at h3 <;> omega
    clear h3 h1 h2
    go_enter Tryd.func35, Tryd.ntmps35
    go_wp2
    go_ret
    exact ⟨qret H.out, rfl⟩
  · have H : Hid (a.tmod n = a % n) := Lib.hid (by split at h3 <;> omega)
    clear h3 h1 h2
    go_enter Tryd.func35, Tryd.ntmps35
    go_wp2
    go_ret
    exact ⟨qret H.out, rfl⟩
/-- A number that is within, as a plain one. -/
theorem within12_nat (a : Int) (n : Nat) (hn : 0 < n) (hn' : n ≤ 4000000) (w : World) :
    Calls Tryd.prog 35 #[.int .i64 a, .int .i64 n] w fun e w' => ∃ q : Nat, q < n ∧ e = .returned (.int .i64 q) ∧ w = w' := by
  refine (within12_any a n (by omega) (by omega) w).mono ?_
  rintro e w' ⟨rfl, rfl⟩
  have h1 := Int.emod_nonneg a (show (n : Int) ≠ 0 by omega)
  have h2 := Int.emod_lt_of_pos a (show (0 : Int) < n by omega)
  exact ⟨(a % n).toNat, by omega, by rw [Int.toNat_of_nonneg h1], rfl⟩
theorem wrap64_I64 (n : Int) : I64 (wrap64 n) := by unfold wrap64 I64; omega
theorem i64wrap_I64 (n : Int) : I64 (IntKind.i64.wrap n) := by
  rw [IntKind.wrap_i64]
  unfold I64
  omega
theorem wrapK_idem (k n : Int) : wrapK k (wrapK k n) = wrapK k n := by
  unfold wrapK wrap32
  repeat' (first | omega | split)
theorem wrapK_I64 (k n : Int) (h : I64 n) : I64 (wrapK k n) := by
  unfold wrapK wrap32
  unfold I64 at *
  repeat' (first | omega | split)
theorem qrb {a b : Bool} (h : a = b) : Ending.returned (.bool a) = .returned (.bool b) := by rw [h]
/-- Is the top of a kind? -/
def topB (st : List Int) (k : Int) : Bool := decide (st.getLast? = some k)
set_option maxHeartbeats 4000000 in
set_option maxRecDepth 100000 in
theorem top12_any (S : Option Addr) (cs : Nat) (st : List Int) (k : Int) (w : World) (hs : Row w w.heap.size 1 S st.length (st.map (Value.int .i64))) (hsc : st.length ≤ cs) (hs8 : st.length ≤ 1000) :
    Calls Tryd.prog 67 #[.slice S st.length cs, .int .i64 k] w fun e w' => e = .returned (.bool (topB st k)) ∧ Below w.heap.size w w' := by
  rcases nil_or_app st with rfl | ⟨r, b, rfl⟩
  · clear hs
    go_enter Tryd.func67, Tryd.ntmps67
    go_wp2
    go_ret
    exact ⟨rfl, Below.refl _ _⟩
  · obtain ⟨m, hm⟩ : ∃ m, r.length = m := ⟨_, rfl⟩
    have hl : (r ++ [b]).length = m + 1 := by simp [hm]
    obtain ⟨sb, so, hS, hsb, eb⟩ := row_top (m := m) (k := 1) (base := r) (tops := [b]) (j := 0) (by rw [hl] at hs; exact hs) hm (by decide) rfl
    rw [Nat.add_zero] at eb
    rw [hl] at hsc hs8 ⊢
    subst hS
    have HT := Lib.hid (show topB (r ++ [b]) k = (b == k) from by
      by_cases h : b = k
      · simp [topB, h]
      · simp [topB, h])
    have hk7 : (m : Int) + 1 - 1 = m := by omega
    have hk8 : (m : Int) + 1 ≤ cs := by omega
    have hk9 : (m : Int) ≤ 1000 := by omega
    clear hs hm hl
    go_enter Tryd.func67, Tryd.ntmps67
    by_cases hbk : b = k
    · have hbk' : (b == k) = true := by simpa using hbk
      rw [hbk'] at HT
      subst hbk
      go_wp2_with fail
      go_ret
      exact ⟨qrb HT.out.symm, by repeat (first | exact Below.refl _ _ | refine Below.drew ?_ | refine below_dN _ ?_)⟩
    · have hbk' : (b == k) = false := by simpa using hbk
      rw [hbk'] at HT
      go_wp2_with fail
      go_ret
      exact ⟨qrb HT.out.symm, by repeat (first | exact Below.refl _ _ | refine Below.drew ?_ | refine below_dN _ ?_)⟩
/-- Two rows of numbers, as far as they are the same. -/
def SameRel (w : World) (xs ys : List Int) (i : Value) (wr : World) : Prop := ∃ j : Nat, i = .int .i64 j ∧ j ≤ xs.length ∧ xs.take j = ys.take j ∧ Below w.heap.size w wr
set_option maxHeartbeats 4000000 in
set_option maxRecDepth 100000 in
theorem same12_any (A A' : Option Addr) (c c' : Nat) (xs ys : List Int) (w : World) (hr : Row w w.heap.size 1 A xs.length (xs.map (Value.int .i64))) (hr' : Row w w.heap.size 1 A' ys.length (ys.map (Value.int .i64))) (hc : xs.length ≤ c) (hc' : ys.length ≤ c') (hx : xs.length ≤ 1000) (hy : ys.length ≤ 1000) :
    Calls Tryd.prog 68 #[.slice A xs.length c, .slice A' ys.length c'] w fun e w' => e = .returned (.bool (decide (xs = ys))) ∧ Below w.heap.size w w' := by
  have HR := Lib.hid hr
  have HR' := Lib.hid hr'
  have hcI : (xs.length : Int) ≤ c := by omega
  have hcI' : (ys.length : Int) ≤ c' := by omega
  have hx' : (xs.length : Int) ≤ 1000 := by omega
  have hy' : (ys.length : Int) ≤ 1000 := by omega
  clear hr hr'
  by_cases hll : xs.length = ys.length
  · go_enter Tryd.func68, Tryd.ntmps68
    rw [hll] at hcI hx' hc hx
    have HLL := Lib.hid hll
    rw [hll]
    clear hll
    go_wp2_with fail
    go_loopw [5] (fun i wr => SameRel w xs ys i wr) (fun i _ => ys.length - (intOf i).toNat)
    case atStart => exact ⟨0, rfl, Nat.zero_le _, rfl, Below.refl _ _⟩
    case round =>
      obtain ⟨j, rfl, hj, ht, hb⟩ := hrel
      rw [HLL.out] at hj
      have HB := Lib.hid hb
      have HT := Lib.hid ht
      clear ht
      by_cases hjl : j < ys.length
      · have hjl' : (j : Int) < ys.length := by omega
        have hll := HLL.out
        obtain ⟨x, hx⟩ : ∃ x, xs[j]? = some x := ⟨_, List.getElem?_eq_getElem (by omega)⟩
        obtain ⟨y, hy⟩ : ∃ y, ys[j]? = some y := ⟨_, List.getElem?_eq_getElem hjl⟩
        obtain ⟨b, off, hA, hbl, hcc⟩ := HR.out.2 (by omega)
        obtain ⟨b', off', hA', hbl', hcc'⟩ := HR'.out.2 (by omega)
        have e0 : wr.cell? ⟨b, off + j, none⟩ = some (.int .i64 x) := (dcell hb hbl _).trans (hcc j _ (by simp [hx]))
        have e1 : wr.cell? ⟨b', off' + j, none⟩ = some (.int .i64 y) := (dcell hb hbl' _).trans (hcc' j _ (by simp [hy]))
        have HX := Lib.hid hx
        have HY := Lib.hid hy
        subst hA hA'
        clear hcc hcc' hx hy hb hll
        by_cases hxy : x = y
        · subst hxy
          go_wp2_with fail
          go_region
          all_goals (go_wp2_with fail; go_roundw; (case rel => (refine ⟨j + 1, rfl, (by have := HLL.out; omega), (by rw [List.take_add_one, List.take_add_one, HT.out, HX.out, HY.out]), ?_⟩; repeat (first | exact HB.out | refine Below.drew ?_ | refine below_dN _ ?_))); (case measure => (simp [intOf]; omega)))
        · have hxy' : (x == y) = false := by simpa using hxy
          have HNE := Lib.hid (show decide (xs = ys) = false from decide_eq_false (fun e => by
            have h1 := HX.out
            rw [e, HY.out] at h1
            exact hxy (Option.some.inj h1).symm))
          clear hxy
          go_wp2_with fail
          go_region
          all_goals (go_wp2_with fail; go_ret; refine ⟨qrb HNE.out.symm, ?_⟩; repeat (first | exact HB.out | refine Below.drew ?_ | refine below_dN _ ?_))
      · have hjs : j = ys.length := by omega
        subst hjs
        have HEQ := Lib.hid (show decide (xs = ys) = true from decide_eq_true (by
          have h := HT.out
          rw [List.take_length, ← HLL.out, List.take_length] at h
          exact h))
        clear hb
        go_wp2
        go_ret
        exact ⟨qrb HEQ.out.symm, HB.out⟩
  · have HNE := Lib.hid (show decide (xs = ys) = false from decide_eq_false (fun e => hll (by rw [e])))
    have hll' : ¬ ((xs.length : Int) = ys.length) := by omega
    have hl2 : ((xs.length : Int) == ys.length) = false := by rw [beq_eq_false_iff_ne]; exact hll'
    go_enter Tryd.func68, Tryd.ntmps68
    go_wp2
    go_ret
    exact ⟨qrb HNE.out.symm, Below.refl _ _⟩
end Go.Proofs.YtngobbbinacomaaDoor
