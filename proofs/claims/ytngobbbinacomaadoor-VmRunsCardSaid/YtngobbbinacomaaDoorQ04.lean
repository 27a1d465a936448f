/- Texts of VIdx, VWrap, VA11, VB11, VC11, VD11, in one. -/
import Derived.Test.YtngobbbinacomaaDoorRows
import Derived.WalkKit
import Derived.WalkSpells
import Derived.WalkLawsBesides
import Derived.Lib.Hide
import Derived.BigGuardPart
/- slices.Index and slices.Contains at a row of ints of the call's own. -/
namespace Go.Proofs.YtngobbbinacomaaDoor.c11
open Go.Proofs.YtngobbbinacomaaDoor
open Go.RowKit
set_option linter.unusedVariables false
/-- Where a number stands in a list: from nought on, if it is there. -/
def IdxPost (z : List Int) (v : Int) (w : World) (e : Ending) (w' : World) : Prop := ∃ r : Int, decide (0 ≤ r) = decide (v ∈ z) ∧ e = .returned (.int .i64 r) ∧ w = w'
theorem idx_at (z : List Int) (v : Int) (k : Nat) (hk : k < z.length) (he : z[k] = v) : decide ((0 : Int) ≤ (k : Int)) = decide (v ∈ z) := by
  have hm : v ∈ z := he ▸ List.getElem_mem hk
  simp [hm]
theorem idx_no (z : List Int) (v : Int) (hn : ∀ j (h : j < z.length), z[j] ≠ v) : decide ((0 : Int) ≤ -1) = decide (v ∈ z) := by
  have : ¬ v ∈ z := fun hm => by
    obtain ⟨i, hi, he⟩ := List.getElem_of_mem hm
    exact hn i hi he
  simp [this]
theorem bret {a b : Bool} (h : a = b) : Ending.returned (.bool a) = .returned (.bool b) := by rw [h]
theorem xret {k : IntKind} {a b : Int} (h : a = b) : Ending.returned (.int k a) = .returned (.int k b) := by rw [h]
set_option maxHeartbeats 800000 in
theorem index_any (g cap : Nat) (z : List Int) (v : Int) (w : World) (hz : z.length ≤ 1000) (hc : ∀ i (h : i < z.length), w.cell? ⟨g, i, none⟩ = some (.int .i64 z[i])) :
    Calls Tryd.prog 127 #[.slice (some ⟨g, 0, none⟩) z.length cap, .int .i64 v] w (IdxPost z v w) := by
  have HC := Lib.hid hc
  clear hc
  obtain ⟨n, hn⟩ : ∃ n, z.length = n := ⟨_, rfl⟩
  have HN := Lib.hid hn
  rw [hn] at hz ⊢
  clear hn
  go_enter Tryd.func127, Tryd.ntmps127
  go_wp2
  go_loop [8] (fun i => ∃ k : Nat, k ≤ n ∧ i = .int .i64 k ∧ ∀ j (h : j < z.length), j < k → z[j] ≠ v) (fun i => n - (intOf i).toNat)
  case atStart => exact ⟨0, by omega, rfl, fun j _ h => absurd h (by omega)⟩
  case round =>
    obtain ⟨k, hk, rfl, hno⟩ := hrel
    have HNO := Lib.hid hno
    clear hno
    by_cases hlt : k < n
    · have hlz : k < z.length := by rw [HN.out]; exact hlt
      have hcell := HC.out k hlz
      obtain ⟨x, hx⟩ : ∃ x, z[k] = x := ⟨_, rfl⟩
      rw [hx] at hcell
      have HX := Lib.hid hx
      clear hx
      by_cases he : v = x
      · subst he
        go_wp2
        go_ret
        exact ⟨_, idx_at z _ k hlz HX.out, rfl, rfl⟩
      · have he' : (v == x) = false := by simpa using he
        go_wp2
        go_round
        case rel => exact ⟨k + 1, by omega, by go_num, fun j h hj => by
          by_cases hjk : j < k
          · exact HNO.out j h hjk
          · obtain rfl : j = k := by omega
            rw [HX.out]; exact fun h => he h.symm⟩
        case measure => simp [intOf]; omega
    · go_wp2
      go_ret
      exact ⟨_, idx_no z v fun j h => HNO.out j h (by have := HN.out; omega), rfl, rfl⟩
theorem contains_any (g cap : Nat) (z : List Int) (v : Int) (w : World) (hz : z.length ≤ 1000) (hc : ∀ i (h : i < z.length), w.cell? ⟨g, i, none⟩ = some (.int .i64 z[i])) :
    Calls Tryd.prog 126 #[.slice (some ⟨g, 0, none⟩) z.length cap, .int .i64 v] w fun e w' => e = .returned (.bool (decide (v ∈ z))) ∧ w = w' := by
  have HI := Lib.hid (index_any g cap z v w hz hc)
  clear hc
  go_enter Tryd.func126, Tryd.ntmps126
  go_wp2_with fail
  refine HI.out.mono ?_
  rintro e _ ⟨r, hr, rfl, rfl⟩
  have HR := Lib.hid hr
  clear hr
  go_wp2
  go_ret
  exact ⟨bret HR.out, rfl⟩
end Go.Proofs.YtngobbbinacomaaDoor.c11
/- Chapter 7: Wrap, the program's and the document's: a value of a kind, as a plain function. Printed by genwrap.py. -/
namespace Go.Proofs.YtngobbbinacomaaDoor.c11
open Go.Proofs.YtngobbbinacomaaDoor
open Go.RowKit
set_option linter.unusedVariables false
/-- A value of a kind. -/
def wrapK (k n : Int) : Int :=
  if k = 1 then (if n = 0 then 0 else 1) else if k = 2 then n % 256 else if k = 3 then n % 65536 else if k = 4 then (n + 32768) % 65536 - 32768 else if k = 5 then wrap32 n else if k = 6 then n else 0
theorem w_u16 (n : Int) : wrap64 (IntKind.u16.wrap n) = n % 65536 := by
  have h : IntKind.u16.wrap n = n % 65536 := by simp [IntKind.wrap, IntKind.bits, IntKind.signed]
  rw [h]; exact IntWalk.wrap64_in _ (by omega)
theorem w_i16 (n : Int) : wrap64 (IntKind.i16.wrap n) = (n + 32768) % 65536 - 32768 := by
  have h : IntKind.i16.wrap n = (n + 32768) % 65536 - 32768 := by
    simp [IntKind.wrap, IntKind.bits, IntKind.signed]
    try omega
  rw [h]; exact IntWalk.wrap64_in _ (by omega)
theorem wret {k : IntKind} {a b : Int} (h : a = b) : Ending.returned (.int k a) = .returned (.int k b) := by rw [h]
set_option maxHeartbeats 400000 in
theorem pwrap_1z (n : Int) (w : World) (h : n = 0) :
    Calls Tryd.prog 88 #[.int .i64 1, .int .i64 n] w fun e w' => e = .returned (.int .i64 (0)) ∧ w = w' := by
  go_enter Tryd.func88, Tryd.ntmps88
  go_wp2
  go_ret
  exact ⟨wret (by rfl), rfl⟩
set_option maxHeartbeats 400000 in
theorem pwrap_1n (n : Int) (w : World) (h : (n == 0) = false) :
    Calls Tryd.prog 88 #[.int .i64 1, .int .i64 n] w fun e w' => e = .returned (.int .i64 (1)) ∧ w = w' := by
  go_enter Tryd.func88, Tryd.ntmps88
  go_wp2
  go_ret
  exact ⟨wret (by rfl), rfl⟩
set_option maxHeartbeats 400000 in
theorem pwrap_2 (n : Int) (w : World) :
    Calls Tryd.prog 88 #[.int .i64 2, .int .i64 n] w fun e w' => e = .returned (.int .i64 (n % 256)) ∧ w = w' := by
  go_enter Tryd.func88, Tryd.ntmps88
  go_wp2
  go_ret
  exact ⟨wret (by first | rfl | (simp; done) | (unfold wrap64; omega)), rfl⟩
set_option maxHeartbeats 400000 in
theorem pwrap_3 (n : Int) (w : World) :
    Calls Tryd.prog 88 #[.int .i64 3, .int .i64 n] w fun e w' => e = .returned (.int .i64 (n % 65536)) ∧ w = w' := by
  go_enter Tryd.func88, Tryd.ntmps88
  go_wp2
  go_ret
  exact ⟨wret (w_u16 n), rfl⟩
set_option maxHeartbeats 400000 in
theorem pwrap_4 (n : Int) (w : World) :
    Calls Tryd.prog 88 #[.int .i64 4, .int .i64 n] w fun e w' => e = .returned (.int .i64 ((n + 32768) % 65536 - 32768)) ∧ w = w' := by
  go_enter Tryd.func88, Tryd.ntmps88
  go_wp2
  go_ret
  exact ⟨wret (w_i16 n), rfl⟩
set_option maxHeartbeats 400000 in
theorem pwrap_5 (n : Int) (w : World) :
    Calls Tryd.prog 88 #[.int .i64 5, .int .i64 n] w fun e w' => e = .returned (.int .i64 (wrap32 n)) ∧ w = w' := by
  go_enter Tryd.func88, Tryd.ntmps88
  go_wp2
  go_ret
  exact ⟨wret (by first | rfl | exact IntWalk.wrap64_in _ (by unfold wrap32; omega)), rfl⟩
set_option maxHeartbeats 400000 in
theorem pwrap_6 (n : Int) (w : World) :
    Calls Tryd.prog 88 #[.int .i64 6, .int .i64 n] w fun e w' => e = .returned (.int .i64 (n)) ∧ w = w' := by
  go_enter Tryd.func88, Tryd.ntmps88
  go_wp2
  go_ret
  exact ⟨wret (by rfl), rfl⟩
set_option maxHeartbeats 400000 in
theorem pwrap_x (k n : Int) (w : World) (h1 : (k == 1) = false) (h2 : (k == 2) = false) (h3 : (k == 3) = false) (h4 : (k == 4) = false) (h5 : (k == 5) = false) (h6 : (k == 6) = false) :
    Calls Tryd.prog 88 #[.int .i64 k, .int .i64 n] w fun e w' => e = .returned (.int .i64 (0)) ∧ w = w' := by
  go_enter Tryd.func88, Tryd.ntmps88
  go_wp2
  go_ret
  exact ⟨wret (by rfl), rfl⟩
theorem pwrap_any (k n : Int) (w : World) :
    Calls Tryd.prog 88 #[.int .i64 k, .int .i64 n] w fun e w' => e = .returned (.int .i64 (wrapK k n)) ∧ w = w' := by
  by_cases h1 : k = 1
  · subst h1
    by_cases h : n = 0
    · rw [show wrapK 1 n = 0 by simp [wrapK, h]]; exact pwrap_1z n w h
    · rw [show wrapK 1 n = 1 by simp [wrapK, h]]; exact pwrap_1n n w (by simpa using h)
  · by_cases h2 : k = 2
    · subst h2; exact pwrap_2 n w
    · by_cases h3 : k = 3
      · subst h3; exact pwrap_3 n w
      · by_cases h4 : k = 4
        · subst h4; exact pwrap_4 n w
        · by_cases h5 : k = 5
          · subst h5; exact pwrap_5 n w
          · by_cases h6 : k = 6
            · subst h6; exact pwrap_6 n w
            · rw [show wrapK k n = 0 by simp [wrapK, h1, h2, h3, h4, h5, h6]]
              exact pwrap_x k n w (by simpa using h1) (by simpa using h2) (by simpa using h3) (by simpa using h4) (by simpa using h5) (by simpa using h6)
set_option maxHeartbeats 400000 in
theorem rwrap_1z (n : Int) (w : World) (h : n = 0) :
    Calls Tryd.prog 26 #[.int .i64 1, .int .i64 n] w fun e w' => e = .returned (.int .i64 (0)) ∧ w = w' := by
  go_enter Tryd.func26, Tryd.ntmps26
  go_wp2
  go_ret
  exact ⟨wret (by rfl), rfl⟩
set_option maxHeartbeats 400000 in
theorem rwrap_1n (n : Int) (w : World) (h : (n == 0) = false) :
    Calls Tryd.prog 26 #[.int .i64 1, .int .i64 n] w fun e w' => e = .returned (.int .i64 (1)) ∧ w = w' := by
  go_enter Tryd.func26, Tryd.ntmps26
  go_wp2
  go_ret
  exact ⟨wret (by rfl), rfl⟩
set_option maxHeartbeats 400000 in
theorem rwrap_2 (n : Int) (w : World) :
    Calls Tryd.prog 26 #[.int .i64 2, .int .i64 n] w fun e w' => e = .returned (.int .i64 (n % 256)) ∧ w = w' := by
  go_enter Tryd.func26, Tryd.ntmps26
  go_wp2
  go_ret
  exact ⟨wret (by first | rfl | (simp; done) | (unfold wrap64; omega)), rfl⟩
set_option maxHeartbeats 400000 in
theorem rwrap_3 (n : Int) (w : World) :
    Calls Tryd.prog 26 #[.int .i64 3, .int .i64 n] w fun e w' => e = .returned (.int .i64 (n % 65536)) ∧ w = w' := by
  go_enter Tryd.func26, Tryd.ntmps26
  go_wp2
  go_ret
  exact ⟨wret (w_u16 n), rfl⟩
set_option maxHeartbeats 400000 in
theorem rwrap_4 (n : Int) (w : World) :
    Calls Tryd.prog 26 #[.int .i64 4, .int .i64 n] w fun e w' => e = .returned (.int .i64 ((n + 32768) % 65536 - 32768)) ∧ w = w' := by
  go_enter Tryd.func26, Tryd.ntmps26
  go_wp2
  go_ret
  exact ⟨wret (w_i16 n), rfl⟩
set_option maxHeartbeats 400000 in
theorem rwrap_5 (n : Int) (w : World) :
    Calls Tryd.prog 26 #[.int .i64 5, .int .i64 n] w fun e w' => e = .returned (.int .i64 (wrap32 n)) ∧ w = w' := by
  go_enter Tryd.func26, Tryd.ntmps26
  go_wp2
  go_ret
  exact ⟨wret (by first | rfl | exact IntWalk.wrap64_in _ (by unfold wrap32; omega)), rfl⟩
set_option maxHeartbeats 400000 in
theorem rwrap_6 (n : Int) (w : World) :
    Calls Tryd.prog 26 #[.int .i64 6, .int .i64 n] w fun e w' => e = .returned (.int .i64 (n)) ∧ w = w' := by
  go_enter Tryd.func26, Tryd.ntmps26
  go_wp2
  go_ret
  exact ⟨wret (by rfl), rfl⟩
set_option maxHeartbeats 400000 in
theorem rwrap_x (k n : Int) (w : World) (h1 : (k == 1) = false) (h2 : (k == 2) = false) (h3 : (k == 3) = false) (h4 : (k == 4) = false) (h5 : (k == 5) = false) (h6 : (k == 6) = false) :
    Calls Tryd.prog 26 #[.int .i64 k, .int .i64 n] w fun e w' => e = .returned (.int .i64 (0)) ∧ w = w' := by
  go_enter Tryd.func26, Tryd.ntmps26
  go_wp2
  go_ret
  exact ⟨wret (by rfl), rfl⟩
theorem rwrap_any (k n : Int) (w : World) :
    Calls Tryd.prog 26 #[.int .i64 k, .int .i64 n] w fun e w' => e = .returned (.int .i64 (wrapK k n)) ∧ w = w' := by
  by_cases h1 : k = 1
  · subst h1
    by_cases h : n = 0
    · rw [show wrapK 1 n = 0 by simp [wrapK, h]]; exact rwrap_1z n w h
    · rw [show wrapK 1 n = 1 by simp [wrapK, h]]; exact rwrap_1n n w (by simpa using h)
  · by_cases h2 : k = 2
    · subst h2; exact rwrap_2 n w
    · by_cases h3 : k = 3
      · subst h3; exact rwrap_3 n w
      · by_cases h4 : k = 4
        · subst h4; exact rwrap_4 n w
        · by_cases h5 : k = 5
          · subst h5; exact rwrap_5 n w
          · by_cases h6 : k = 6
            · subst h6; exact rwrap_6 n w
            · rw [show wrapK k n = 0 by simp [wrapK, h1, h2, h3, h4, h5, h6]]
              exact rwrap_x k n w (by simpa using h1) (by simpa using h2) (by simpa using h3) (by simpa using h4) (by simpa using h5) (by simpa using h6)
end Go.Proofs.YtngobbbinacomaaDoor.c11
/- Chapter 11: which kind an operator makes, as a plain function; the document's Kind. -/
namespace Go.Proofs.YtngobbbinacomaaDoor.c11
open Go.Proofs.YtngobbbinacomaaDoor
open Go.RowKit
set_option linter.unusedVariables false
/-- Is the second one a kind of values? -/
theorem value_any (a : Int) (w : World) : Calls Tryd.prog 57 #[.int .i64 a] w fun e w' => e = .returned (.bool (decide (1 ≤ a ∧ a ≤ 6))) ∧ w = w' := by
  by_cases h1 : 1 ≤ a
  · by_cases h2 : a ≤ 6
    · rw [decide_eq_true ⟨h1, h2⟩]
      go_enter Tryd.func57, Tryd.ntmps57
      go_wp2
      go_ret
      exact ⟨rfl, rfl⟩
    · rw [decide_eq_false (by omega)]
      have h2' : decide (a ≤ 6) = false := by simpa using h2
      go_enter Tryd.func57, Tryd.ntmps57
      go_wp2
      go_ret
      exact ⟨rfl, rfl⟩
  · rw [decide_eq_false (by omega)]
    have h1' : decide (1 ≤ a) = false := by simpa using h1
    go_enter Tryd.func57, Tryd.ntmps57
    go_wp2
    go_ret
    exact ⟨rfl, rfl⟩
/-- Does a sign fit two kinds; what it makes. -/
def fitsK (s a b : Int) : Bool :=
  if s = 7 ∨ s = 8 then decide (a = b ∧ (a = 4 ∨ a = 5 ∨ a = 6)) else if s = 9 ∨ s = 10 ∨ s = 11 then decide (a = b ∧ (a = 4 ∨ a = 5)) else if s = 12 ∨ s = 13 ∨ s = 14 then decide (a = b ∧ (a = 1 ∨ a = 2 ∨ a = 3))
  else if s = 16 then decide (a = b ∧ 1 ≤ a ∧ a ≤ 6) else if s = 17 then decide (a = b ∧ 2 ≤ a ∧ a ≤ 6) else decide ((a = 2 ∨ a = 3) ∧ b = 5)
def signK (s : Int) : Bool := decide (s = 7 ∨ s = 8 ∨ s = 9 ∨ s = 10 ∨ s = 11 ∨ s = 12 ∨ s = 13 ∨ s = 14 ∨ s = 16 ∨ s = 17 ∨ s = 28 ∨ s = 29)
def kindE (s a b : Int) : Int := if signK s then (if fitsK s a b then 0 else 19) else 3
def kindM (s a b : Int) : Int := if signK s then (if fitsK s a b then (if s = 16 ∨ s = 17 then 1 else a) else 0) else 0
theorem kret {a b c d : Int} (h : a = c) (h' : b = d) : Ending.returned (.tuple #[.int .i64 a, .int .i64 b]) = .returned (.tuple #[.int .i64 c, .int .i64 d]) := by rw [h, h']
set_option maxHeartbeats 2000000 in
theorem rkind_7 (a b : Int) (w : World) : Calls Tryd.prog 42 #[.int .i64 7, .int .i64 a, .int .i64 b] w fun e w' => e = .returned (.tuple #[.int .i64 (kindM 7 a b), .int .i64 (kindE 7 a b)]) ∧ w = w' := by
  go_enter Tryd.func42, Tryd.ntmps42
  go_wp2_with (go_at_call 57; (with_reducible refine (value_any _ _).mono ?_); rintro e w' ⟨rfl, rfl⟩)
  all_goals go_ret2
  all_goals refine ⟨kret ?_ ?_, rfl⟩
  all_goals simp_all [kindM, kindE, signK, fitsK]
  all_goals omega
set_option maxHeartbeats 2000000 in
theorem rkind_8 (a b : Int) (w : World) : Calls Tryd.prog 42 #[.int .i64 8, .int .i64 a, .int .i64 b] w fun e w' => e = .returned (.tuple #[.int .i64 (kindM 8 a b), .int .i64 (kindE 8 a b)]) ∧ w = w' := by
  go_enter Tryd.func42, Tryd.ntmps42
  go_wp2_with (go_at_call 57; (with_reducible refine (value_any _ _).mono ?_); rintro e w' ⟨rfl, rfl⟩)
  all_goals go_ret2
  all_goals refine ⟨kret ?_ ?_, rfl⟩
  all_goals simp_all [kindM, kindE, signK, fitsK]
  all_goals omega
set_option maxHeartbeats 2000000 in
theorem rkind_9 (a b : Int) (w : World) : Calls Tryd.prog 42 #[.int .i64 9, .int .i64 a, .int .i64 b] w fun e w' => e = .returned (.tuple #[.int .i64 (kindM 9 a b), .int .i64 (kindE 9 a b)]) ∧ w = w' := by
  go_enter Tryd.func42, Tryd.ntmps42
  go_wp2_with (go_at_call 57; (with_reducible refine (value_any _ _).mono ?_); rintro e w' ⟨rfl, rfl⟩)
  all_goals go_ret2
  all_goals refine ⟨kret ?_ ?_, rfl⟩
  all_goals simp_all [kindM, kindE, signK, fitsK]
  all_goals omega
set_option maxHeartbeats 2000000 in
theorem rkind_10 (a b : Int) (w : World) : Calls Tryd.prog 42 #[.int .i64 10, .int .i64 a, .int .i64 b] w fun e w' => e = .returned (.tuple #[.int .i64 (kindM 10 a b), .int .i64 (kindE 10 a b)]) ∧ w = w' := by
  go_enter Tryd.func42, Tryd.ntmps42
  go_wp2_with (go_at_call 57; (with_reducible refine (value_any _ _).mono ?_); rintro e w' ⟨rfl, rfl⟩)
  all_goals go_ret2
  all_goals refine ⟨kret ?_ ?_, rfl⟩
  all_goals simp_all [kindM, kindE, signK, fitsK]
  all_goals omega
set_option maxHeartbeats 2000000 in
theorem rkind_11 (a b : Int) (w : World) : Calls Tryd.prog 42 #[.int .i64 11, .int .i64 a, .int .i64 b] w fun e w' => e = .returned (.tuple #[.int .i64 (kindM 11 a b), .int .i64 (kindE 11 a b)]) ∧ w = w' := by
  go_enter Tryd.func42, Tryd.ntmps42
  go_wp2_with (go_at_call 57; (with_reducible refine (value_any _ _).mono ?_); rintro e w' ⟨rfl, rfl⟩)
  all_goals go_ret2
  all_goals refine ⟨kret ?_ ?_, rfl⟩
  all_goals simp_all [kindM, kindE, signK, fitsK]
  all_goals omega
set_option maxHeartbeats 2000000 in
theorem rkind_12 (a b : Int) (w : World) : Calls Tryd.prog 42 #[.int .i64 12, .int .i64 a, .int .i64 b] w fun e w' => e = .returned (.tuple #[.int .i64 (kindM 12 a b), .int .i64 (kindE 12 a b)]) ∧ w = w' := by
  go_enter Tryd.func42, Tryd.ntmps42
  go_wp2_with (go_at_call 57; (with_reducible refine (value_any _ _).mono ?_); rintro e w' ⟨rfl, rfl⟩)
  all_goals go_ret2
  all_goals refine ⟨kret ?_ ?_, rfl⟩
  all_goals simp_all [kindM, kindE, signK, fitsK]
  all_goals omega
set_option maxHeartbeats 2000000 in
theorem rkind_13 (a b : Int) (w : World) : Calls Tryd.prog 42 #[.int .i64 13, .int .i64 a, .int .i64 b] w fun e w' => e = .returned (.tuple #[.int .i64 (kindM 13 a b), .int .i64 (kindE 13 a b)]) ∧ w = w' := by
  go_enter Tryd.func42, Tryd.ntmps42
  go_wp2_with (go_at_call 57; (with_reducible refine (value_any _ _).mono ?_); rintro e w' ⟨rfl, rfl⟩)
  all_goals go_ret2
  all_goals refine ⟨kret ?_ ?_, rfl⟩
  all_goals simp_all [kindM, kindE, signK, fitsK]
  all_goals omega
set_option maxHeartbeats 2000000 in
theorem rkind_14 (a b : Int) (w : World) : Calls Tryd.prog 42 #[.int .i64 14, .int .i64 a, .int .i64 b] w fun e w' => e = .returned (.tuple #[.int .i64 (kindM 14 a b), .int .i64 (kindE 14 a b)]) ∧ w = w' := by
  go_enter Tryd.func42, Tryd.ntmps42
  go_wp2_with (go_at_call 57; (with_reducible refine (value_any _ _).mono ?_); rintro e w' ⟨rfl, rfl⟩)
  all_goals go_ret2
  all_goals refine ⟨kret ?_ ?_, rfl⟩
  all_goals simp_all [kindM, kindE, signK, fitsK]
  all_goals omega
set_option maxHeartbeats 2000000 in
theorem rkind_16 (a b : Int) (w : World) : Calls Tryd.prog 42 #[.int .i64 16, .int .i64 a, .int .i64 b] w fun e w' => e = .returned (.tuple #[.int .i64 (kindM 16 a b), .int .i64 (kindE 16 a b)]) ∧ w = w' := by
  go_enter Tryd.func42, Tryd.ntmps42
  go_wp2_with (go_at_call 57; (with_reducible refine (value_any _ _).mono ?_); rintro e w' ⟨rfl, rfl⟩)
  all_goals go_ret2
  all_goals refine ⟨kret ?_ ?_, rfl⟩
  all_goals simp_all [kindM, kindE, signK, fitsK]
  all_goals omega
set_option maxHeartbeats 2000000 in
theorem rkind_17 (a b : Int) (w : World) : Calls Tryd.prog 42 #[.int .i64 17, .int .i64 a, .int .i64 b] w fun e w' => e = .returned (.tuple #[.int .i64 (kindM 17 a b), .int .i64 (kindE 17 a b)]) ∧ w = w' := by
  go_enter Tryd.func42, Tryd.ntmps42
  go_wp2_with (go_at_call 57; (with_reducible refine (value_any _ _).mono ?_); rintro e w' ⟨rfl, rfl⟩)
  all_goals go_ret2
  all_goals refine ⟨kret ?_ ?_, rfl⟩
  all_goals simp_all [kindM, kindE, signK, fitsK]
  all_goals omega
set_option maxHeartbeats 2000000 in
theorem rkind_28 (a b : Int) (w : World) : Calls Tryd.prog 42 #[.int .i64 28, .int .i64 a, .int .i64 b] w fun e w' => e = .returned (.tuple #[.int .i64 (kindM 28 a b), .int .i64 (kindE 28 a b)]) ∧ w = w' := by
  go_enter Tryd.func42, Tryd.ntmps42
  go_wp2_with (go_at_call 57; (with_reducible refine (value_any _ _).mono ?_); rintro e w' ⟨rfl, rfl⟩)
  all_goals go_ret2
  all_goals refine ⟨kret ?_ ?_, rfl⟩
  all_goals simp_all [kindM, kindE, signK, fitsK]
  all_goals omega
set_option maxHeartbeats 2000000 in
theorem rkind_29 (a b : Int) (w : World) : Calls Tryd.prog 42 #[.int .i64 29, .int .i64 a, .int .i64 b] w fun e w' => e = .returned (.tuple #[.int .i64 (kindM 29 a b), .int .i64 (kindE 29 a b)]) ∧ w = w' := by
  go_enter Tryd.func42, Tryd.ntmps42
  go_wp2_with (go_at_call 57; (with_reducible refine (value_any _ _).mono ?_); rintro e w' ⟨rfl, rfl⟩)
  all_goals go_ret2
  all_goals refine ⟨kret ?_ ?_, rfl⟩
  all_goals simp_all [kindM, kindE, signK, fitsK]
  all_goals omega
set_option maxHeartbeats 2000000 in
theorem rkind_x (s a b : Int) (w : World) (h7 : (s == 7) = false) (h8 : (s == 8) = false) (h9 : (s == 9) = false) (h10 : (s == 10) = false) (h11 : (s == 11) = false) (h12 : (s == 12) = false) (h13 : (s == 13) = false) (h14 : (s == 14) = false) (h16 : (s == 16) = false) (h17 : (s == 17) = false) (h28 : (s == 28) = false) (h29 : (s == 29) = false) : Calls Tryd.prog 42 #[.int .i64 s, .int .i64 a, .int .i64 b] w fun e w' => e = .returned (.tuple #[.int .i64 (kindM s a b), .int .i64 (kindE s a b)]) ∧ w = w' := by
  go_enter Tryd.func42, Tryd.ntmps42
  go_wp2_with (go_at_call 57; (with_reducible refine (value_any _ _).mono ?_); rintro e w' ⟨rfl, rfl⟩)
  all_goals go_ret2
  all_goals refine ⟨kret ?_ ?_, rfl⟩
  all_goals simp_all [kindM, kindE, signK]
  all_goals omega
end Go.Proofs.YtngobbbinacomaaDoor.c11
/- Chapter 11: the program's Kind, every sign. Printed by genb11.py. -/
namespace Go.Proofs.YtngobbbinacomaaDoor.c11
open Go.Proofs.YtngobbbinacomaaDoor
open Go.RowKit
set_option linter.unusedVariables false
/-- Are two kinds the same, and one of some? -/
def bothB (a b : Int) (l : List Int) : Bool := decide (a = b ∧ a ∈ l)
theorem both_any (a b : Int) (g cap : Nat) (z : List Int) (w : World) (hz : z.length ≤ 1000) (hc : ∀ i (h : i < z.length), w.cell? ⟨g, i, none⟩ = some (.int .i64 z[i])) :
    Calls Tryd.prog 118 #[.int .i64 a, .int .i64 b, .slice (some ⟨g, 0, none⟩) z.length cap] w fun e w' => e = .returned (.bool (bothB a b z)) ∧ w = w' := by
  by_cases hab : a = b
  · subst hab
    have e : bothB a a z = decide (a ∈ z) := by simp [bothB]
    rw [e]
    have HI := Lib.hid (contains_any g cap z a w hz hc)
    clear hc e
    go_enter Tryd.func118, Tryd.ntmps118
    go_wp2_with fail
    refine HI.out.mono ?_
    rintro e _ ⟨rfl, rfl⟩
    go_wp2
    go_ret
    exact ⟨rfl, rfl⟩
  · have e : bothB a b z = false := by simp [bothB, hab]
    rw [e]
    have h : (a == b) = false := by simpa using hab
    clear hc e
    go_enter Tryd.func118, Tryd.ntmps118
    go_wp2
    go_ret
    exact ⟨rfl, rfl⟩
theorem both_t (a b : Int) (g : Nat) (w : World) (h0 : w.cell? ⟨g, 0, none⟩ = some (.int .i64 6)) :
    Calls Tryd.prog 118 #[.int .i64 a, .int .i64 b, .slice (some ⟨g, 0, none⟩) 1 1] w fun e w' => e = .returned (.bool (bothB a b [6])) ∧ w = w' :=
  both_any a b g 1 [6] w (by decide) fun i h => by
    have h' : i < 1 := h
    rcases (show i = 0 by omega) with rfl
    · exact h0
theorem both_n (a b : Int) (g : Nat) (w : World) (h0 : w.cell? ⟨g, 0, none⟩ = some (.int .i64 4)) (h1 : w.cell? ⟨g, 1, none⟩ = some (.int .i64 5)) :
    Calls Tryd.prog 118 #[.int .i64 a, .int .i64 b, .slice (some ⟨g, 0, none⟩) 2 2] w fun e w' => e = .returned (.bool (bothB a b [4, 5])) ∧ w = w' :=
  both_any a b g 2 [4, 5] w (by decide) fun i h => by
    have h' : i < 2 := h
    rcases (show i = 0 ∨ i = 1 by omega) with rfl | rfl
    · exact h0
    · exact h1
theorem both_b (a b : Int) (g : Nat) (w : World) (h0 : w.cell? ⟨g, 0, none⟩ = some (.int .i64 1)) (h1 : w.cell? ⟨g, 1, none⟩ = some (.int .i64 2)) (h2 : w.cell? ⟨g, 2, none⟩ = some (.int .i64 3)) :
    Calls Tryd.prog 118 #[.int .i64 a, .int .i64 b, .slice (some ⟨g, 0, none⟩) 3 3] w fun e w' => e = .returned (.bool (bothB a b [1, 2, 3])) ∧ w = w' :=
  both_any a b g 3 [1, 2, 3] w (by decide) fun i h => by
    have h' : i < 3 := h
    rcases (show i = 0 ∨ i = 1 ∨ i = 2 by omega) with rfl | rfl | rfl
    · exact h0
    · exact h1
    · exact h2
theorem both_e (a b : Int) (g : Nat) (w : World) (h0 : w.cell? ⟨g, 0, none⟩ = some (.int .i64 1)) (h1 : w.cell? ⟨g, 1, none⟩ = some (.int .i64 2)) (h2 : w.cell? ⟨g, 2, none⟩ = some (.int .i64 3)) (h3 : w.cell? ⟨g, 3, none⟩ = some (.int .i64 4)) (h4 : w.cell? ⟨g, 4, none⟩ = some (.int .i64 5)) (h5 : w.cell? ⟨g, 5, none⟩ = some (.int .i64 6)) :
    Calls Tryd.prog 118 #[.int .i64 a, .int .i64 b, .slice (some ⟨g, 0, none⟩) 6 6] w fun e w' => e = .returned (.bool (bothB a b [1, 2, 3, 4, 5, 6])) ∧ w = w' :=
  both_any a b g 6 [1, 2, 3, 4, 5, 6] w (by decide) fun i h => by
    have h' : i < 6 := h
    rcases (show i = 0 ∨ i = 1 ∨ i = 2 ∨ i = 3 ∨ i = 4 ∨ i = 5 by omega) with rfl | rfl | rfl | rfl | rfl | rfl
    · exact h0
    · exact h1
    · exact h2
    · exact h3
    · exact h4
    · exact h5
theorem both_l (a b : Int) (g : Nat) (w : World) (h0 : w.cell? ⟨g, 0, none⟩ = some (.int .i64 2)) (h1 : w.cell? ⟨g, 1, none⟩ = some (.int .i64 3)) (h2 : w.cell? ⟨g, 2, none⟩ = some (.int .i64 4)) (h3 : w.cell? ⟨g, 3, none⟩ = some (.int .i64 5)) (h4 : w.cell? ⟨g, 4, none⟩ = some (.int .i64 6)) :
    Calls Tryd.prog 118 #[.int .i64 a, .int .i64 b, .slice (some ⟨g, 0, none⟩) 5 5] w fun e w' => e = .returned (.bool (bothB a b [2, 3, 4, 5, 6])) ∧ w = w' :=
  both_any a b g 5 [2, 3, 4, 5, 6] w (by decide) fun i h => by
    have h' : i < 5 := h
    rcases (show i = 0 ∨ i = 1 ∨ i = 2 ∨ i = 3 ∨ i = 4 by omega) with rfl | rfl | rfl | rfl | rfl
    · exact h0
    · exact h1
    · exact h2
    · exact h3
    · exact h4
set_option maxHeartbeats 2000000 in
theorem pkind_7 (a b : Int) (w : World) : Calls Tryd.prog 109 #[.int .i64 7, .int .i64 a, .int .i64 b] w fun e w' => e = .returned (.tuple #[.int .i64 (kindM 7 a b), .int .i64 (kindE 7 a b)]) ∧ Below w.heap.size w w' := by
  go_enter Tryd.func109, Tryd.ntmps109
  go_wp2_with (first | (go_at_call 118; (with_reducible refine (both_t _ _ _ _ ?_).mono ?_); go_simp; rintro e w' ⟨rfl, rfl⟩) | (go_at_call 118; (with_reducible refine (both_n _ _ _ _ ?_ ?_).mono ?_); go_simp; go_simp; rintro e w' ⟨rfl, rfl⟩))
  all_goals go_ret2
  all_goals refine ⟨kret ?_ ?_, by repeat (first | exact Below.refl _ _ | refine Below.alloc ?_ (by simp; done) _ | refine Below.alloc ?_ (by simp; omega) _)⟩
  all_goals simp_all [kindM, kindE, signK, fitsK, bothB]
  all_goals omega
set_option maxHeartbeats 2000000 in
theorem pkind_8 (a b : Int) (w : World) : Calls Tryd.prog 109 #[.int .i64 8, .int .i64 a, .int .i64 b] w fun e w' => e = .returned (.tuple #[.int .i64 (kindM 8 a b), .int .i64 (kindE 8 a b)]) ∧ Below w.heap.size w w' := by
  go_enter Tryd.func109, Tryd.ntmps109
  go_wp2_with (first | (go_at_call 118; (with_reducible refine (both_t _ _ _ _ ?_).mono ?_); go_simp; rintro e w' ⟨rfl, rfl⟩) | (go_at_call 118; (with_reducible refine (both_n _ _ _ _ ?_ ?_).mono ?_); go_simp; go_simp; rintro e w' ⟨rfl, rfl⟩))
  all_goals go_ret2
  all_goals refine ⟨kret ?_ ?_, by repeat (first | exact Below.refl _ _ | refine Below.alloc ?_ (by simp; done) _ | refine Below.alloc ?_ (by simp; omega) _)⟩
  all_goals simp_all [kindM, kindE, signK, fitsK, bothB]
  all_goals omega
set_option maxHeartbeats 2000000 in
theorem pkind_9 (a b : Int) (w : World) : Calls Tryd.prog 109 #[.int .i64 9, .int .i64 a, .int .i64 b] w fun e w' => e = .returned (.tuple #[.int .i64 (kindM 9 a b), .int .i64 (kindE 9 a b)]) ∧ Below w.heap.size w w' := by
  go_enter Tryd.func109, Tryd.ntmps109
  go_wp2_with (first | (go_at_call 118; (with_reducible refine (both_n _ _ _ _ ?_ ?_).mono ?_); go_simp; go_simp; rintro e w' ⟨rfl, rfl⟩))
  all_goals go_ret2
  all_goals refine ⟨kret ?_ ?_, by repeat (first | exact Below.refl _ _ | refine Below.alloc ?_ (by simp; done) _ | refine Below.alloc ?_ (by simp; omega) _)⟩
  all_goals simp_all [kindM, kindE, signK, fitsK, bothB]
  all_goals omega
set_option maxHeartbeats 2000000 in
theorem pkind_10 (a b : Int) (w : World) : Calls Tryd.prog 109 #[.int .i64 10, .int .i64 a, .int .i64 b] w fun e w' => e = .returned (.tuple #[.int .i64 (kindM 10 a b), .int .i64 (kindE 10 a b)]) ∧ Below w.heap.size w w' := by
  go_enter Tryd.func109, Tryd.ntmps109
  go_wp2_with (first | (go_at_call 118; (with_reducible refine (both_n _ _ _ _ ?_ ?_).mono ?_); go_simp; go_simp; rintro e w' ⟨rfl, rfl⟩))
  all_goals go_ret2
  all_goals refine ⟨kret ?_ ?_, by repeat (first | exact Below.refl _ _ | refine Below.alloc ?_ (by simp; done) _ | refine Below.alloc ?_ (by simp; omega) _)⟩
  all_goals simp_all [kindM, kindE, signK, fitsK, bothB]
  all_goals omega
set_option maxHeartbeats 2000000 in
theorem pkind_11 (a b : Int) (w : World) : Calls Tryd.prog 109 #[.int .i64 11, .int .i64 a, .int .i64 b] w fun e w' => e = .returned (.tuple #[.int .i64 (kindM 11 a b), .int .i64 (kindE 11 a b)]) ∧ Below w.heap.size w w' := by
  go_enter Tryd.func109, Tryd.ntmps109
  go_wp2_with (first | (go_at_call 118; (with_reducible refine (both_n _ _ _ _ ?_ ?_).mono ?_); go_simp; go_simp; rintro e w' ⟨rfl, rfl⟩))
  all_goals go_ret2
  all_goals refine ⟨kret ?_ ?_, by repeat (first | exact Below.refl _ _ | refine Below.alloc ?_ (by simp; done) _ | refine Below.alloc ?_ (by simp; omega) _)⟩
  all_goals simp_all [kindM, kindE, signK, fitsK, bothB]
  all_goals omega
set_option maxHeartbeats 2000000 in
theorem pkind_12 (a b : Int) (w : World) : Calls Tryd.prog 109 #[.int .i64 12, .int .i64 a, .int .i64 b] w fun e w' => e = .returned (.tuple #[.int .i64 (kindM 12 a b), .int .i64 (kindE 12 a b)]) ∧ Below w.heap.size w w' := by
  go_enter Tryd.func109, Tryd.ntmps109
  go_wp2_with (first | (go_at_call 118; (with_reducible refine (both_b _ _ _ _ ?_ ?_ ?_).mono ?_); go_simp; go_simp; go_simp; rintro e w' ⟨rfl, rfl⟩))
  all_goals go_ret2
  all_goals refine ⟨kret ?_ ?_, by repeat (first | exact Below.refl _ _ | refine Below.alloc ?_ (by simp; done) _ | refine Below.alloc ?_ (by simp; omega) _)⟩
  all_goals simp_all [kindM, kindE, signK, fitsK, bothB]
  all_goals omega
set_option maxHeartbeats 2000000 in
theorem pkind_13 (a b : Int) (w : World) : Calls Tryd.prog 109 #[.int .i64 13, .int .i64 a, .int .i64 b] w fun e w' => e = .returned (.tuple #[.int .i64 (kindM 13 a b), .int .i64 (kindE 13 a b)]) ∧ Below w.heap.size w w' := by
  go_enter Tryd.func109, Tryd.ntmps109
  go_wp2_with (first | (go_at_call 118; (with_reducible refine (both_b _ _ _ _ ?_ ?_ ?_).mono ?_); go_simp; go_simp; go_simp; rintro e w' ⟨rfl, rfl⟩))
  all_goals go_ret2
  all_goals refine ⟨kret ?_ ?_, by repeat (first | exact Below.refl _ _ | refine Below.alloc ?_ (by simp; done) _ | refine Below.alloc ?_ (by simp; omega) _)⟩
  all_goals simp_all [kindM, kindE, signK, fitsK, bothB]
  all_goals omega
set_option maxHeartbeats 2000000 in
theorem pkind_14 (a b : Int) (w : World) : Calls Tryd.prog 109 #[.int .i64 14, .int .i64 a, .int .i64 b] w fun e w' => e = .returned (.tuple #[.int .i64 (kindM 14 a b), .int .i64 (kindE 14 a b)]) ∧ Below w.heap.size w w' := by
  go_enter Tryd.func109, Tryd.ntmps109
  go_wp2_with (first | (go_at_call 118; (with_reducible refine (both_b _ _ _ _ ?_ ?_ ?_).mono ?_); go_simp; go_simp; go_simp; rintro e w' ⟨rfl, rfl⟩))
  all_goals go_ret2
  all_goals refine ⟨kret ?_ ?_, by repeat (first | exact Below.refl _ _ | refine Below.alloc ?_ (by simp; done) _ | refine Below.alloc ?_ (by simp; omega) _)⟩
  all_goals simp_all [kindM, kindE, signK, fitsK, bothB]
  all_goals omega
set_option maxHeartbeats 2000000 in
theorem pkind_16 (a b : Int) (w : World) : Calls Tryd.prog 109 #[.int .i64 16, .int .i64 a, .int .i64 b] w fun e w' => e = .returned (.tuple #[.int .i64 (kindM 16 a b), .int .i64 (kindE 16 a b)]) ∧ Below w.heap.size w w' := by
  go_enter Tryd.func109, Tryd.ntmps109
  go_wp2_with (first | (go_at_call 118; (with_reducible refine (both_e _ _ _ _ ?_ ?_ ?_ ?_ ?_ ?_).mono ?_); go_simp; go_simp; go_simp; go_simp; go_simp; go_simp; rintro e w' ⟨rfl, rfl⟩))
  all_goals go_ret2
  all_goals refine ⟨kret ?_ ?_, by repeat (first | exact Below.refl _ _ | refine Below.alloc ?_ (by simp; done) _ | refine Below.alloc ?_ (by simp; omega) _)⟩
  all_goals simp_all [kindM, kindE, signK, fitsK, bothB]
  all_goals omega
set_option maxHeartbeats 2000000 in
theorem pkind_17 (a b : Int) (w : World) : Calls Tryd.prog 109 #[.int .i64 17, .int .i64 a, .int .i64 b] w fun e w' => e = .returned (.tuple #[.int .i64 (kindM 17 a b), .int .i64 (kindE 17 a b)]) ∧ Below w.heap.size w w' := by
  go_enter Tryd.func109, Tryd.ntmps109
  go_wp2_with (first | (go_at_call 118; (with_reducible refine (both_l _ _ _ _ ?_ ?_ ?_ ?_ ?_).mono ?_); go_simp; go_simp; go_simp; go_simp; go_simp; rintro e w' ⟨rfl, rfl⟩))
  all_goals go_ret2
  all_goals refine ⟨kret ?_ ?_, by repeat (first | exact Below.refl _ _ | refine Below.alloc ?_ (by simp; done) _ | refine Below.alloc ?_ (by simp; omega) _)⟩
  all_goals simp_all [kindM, kindE, signK, fitsK, bothB]
  all_goals omega
set_option maxHeartbeats 2000000 in
theorem pkind_28 (a b : Int) (w : World) : Calls Tryd.prog 109 #[.int .i64 28, .int .i64 a, .int .i64 b] w fun e w' => e = .returned (.tuple #[.int .i64 (kindM 28 a b), .int .i64 (kindE 28 a b)]) ∧ Below w.heap.size w w' := by
  go_enter Tryd.func109, Tryd.ntmps109
  go_wp2
  all_goals go_ret2
  all_goals refine ⟨kret ?_ ?_, by repeat (first | exact Below.refl _ _ | refine Below.alloc ?_ (by simp; done) _ | refine Below.alloc ?_ (by simp; omega) _)⟩
  all_goals simp_all [kindM, kindE, signK, fitsK]
  all_goals omega
set_option maxHeartbeats 2000000 in
theorem pkind_29 (a b : Int) (w : World) : Calls Tryd.prog 109 #[.int .i64 29, .int .i64 a, .int .i64 b] w fun e w' => e = .returned (.tuple #[.int .i64 (kindM 29 a b), .int .i64 (kindE 29 a b)]) ∧ Below w.heap.size w w' := by
  go_enter Tryd.func109, Tryd.ntmps109
  go_wp2
  all_goals go_ret2
  all_goals refine ⟨kret ?_ ?_, by repeat (first | exact Below.refl _ _ | refine Below.alloc ?_ (by simp; done) _ | refine Below.alloc ?_ (by simp; omega) _)⟩
  all_goals simp_all [kindM, kindE, signK, fitsK]
  all_goals omega
set_option maxHeartbeats 2000000 in
theorem pkind_x (s a b : Int) (w : World) (h7 : (s == 7) = false) (h8 : (s == 8) = false) (h9 : (s == 9) = false) (h10 : (s == 10) = false) (h11 : (s == 11) = false) (h12 : (s == 12) = false) (h13 : (s == 13) = false) (h14 : (s == 14) = false) (h16 : (s == 16) = false) (h17 : (s == 17) = false) (h28 : (s == 28) = false) (h29 : (s == 29) = false) : Calls Tryd.prog 109 #[.int .i64 s, .int .i64 a, .int .i64 b] w fun e w' => e = .returned (.tuple #[.int .i64 (kindM s a b), .int .i64 (kindE s a b)]) ∧ Below w.heap.size w w' := by
  go_enter Tryd.func109, Tryd.ntmps109
  go_wp2
  all_goals go_ret2
  all_goals refine ⟨kret ?_ ?_, by repeat (first | exact Below.refl _ _ | refine Below.alloc ?_ (by simp; done) _ | refine Below.alloc ?_ (by simp; omega) _)⟩
  all_goals simp_all [kindM, kindE, signK]
  all_goals omega
theorem pkind_any (s a b : Int) (w : World) : Calls Tryd.prog 109 #[.int .i64 s, .int .i64 a, .int .i64 b] w fun e w' => e = .returned (.tuple #[.int .i64 (kindM s a b), .int .i64 (kindE s a b)]) ∧ Below w.heap.size w w' := by
  by_cases h7 : s = 7
  · subst h7; exact pkind_7 a b w
  by_cases h8 : s = 8
  · subst h8; exact pkind_8 a b w
  by_cases h9 : s = 9
  · subst h9; exact pkind_9 a b w
  by_cases h10 : s = 10
  · subst h10; exact pkind_10 a b w
  by_cases h11 : s = 11
  · subst h11; exact pkind_11 a b w
  by_cases h12 : s = 12
  · subst h12; exact pkind_12 a b w
  by_cases h13 : s = 13
  · subst h13; exact pkind_13 a b w
  by_cases h14 : s = 14
  · subst h14; exact pkind_14 a b w
  by_cases h16 : s = 16
  · subst h16; exact pkind_16 a b w
  by_cases h17 : s = 17
  · subst h17; exact pkind_17 a b w
  by_cases h28 : s = 28
  · subst h28; exact pkind_28 a b w
  by_cases h29 : s = 29
  · subst h29; exact pkind_29 a b w
  exact pkind_x s a b w (by simpa using h7) (by simpa using h8) (by simpa using h9) (by simpa using h10) (by simpa using h11) (by simpa using h12) (by simpa using h13) (by simpa using h14) (by simpa using h16) (by simpa using h17) (by simpa using h28) (by simpa using h29)
theorem rkind_any (s a b : Int) (w : World) : Calls Tryd.prog 42 #[.int .i64 s, .int .i64 a, .int .i64 b] w fun e w' => e = .returned (.tuple #[.int .i64 (kindM s a b), .int .i64 (kindE s a b)]) ∧ w = w' := by
  by_cases h7 : s = 7
  · subst h7; exact rkind_7 a b w
  by_cases h8 : s = 8
  · subst h8; exact rkind_8 a b w
  by_cases h9 : s = 9
  · subst h9; exact rkind_9 a b w
  by_cases h10 : s = 10
  · subst h10; exact rkind_10 a b w
  by_cases h11 : s = 11
  · subst h11; exact rkind_11 a b w
  by_cases h12 : s = 12
  · subst h12; exact rkind_12 a b w
  by_cases h13 : s = 13
  · subst h13; exact rkind_13 a b w
  by_cases h14 : s = 14
  · subst h14; exact rkind_14 a b w
  by_cases h16 : s = 16
  · subst h16; exact rkind_16 a b w
  by_cases h17 : s = 17
  · subst h17; exact rkind_17 a b w
  by_cases h28 : s = 28
  · subst h28; exact rkind_28 a b w
  by_cases h29 : s = 29
  · subst h29; exact rkind_29 a b w
  exact rkind_x s a b w (by simpa using h7) (by simpa using h8) (by simpa using h9) (by simpa using h10) (by simpa using h11) (by simpa using h12) (by simpa using h13) (by simpa using h14) (by simpa using h16) (by simpa using h17) (by simpa using h28) (by simpa using h29)
end Go.Proofs.YtngobbbinacomaaDoor.c11
/- Chapter 11: Two, Not, Conv, the program's and the document's, as plain functions. Printed by genc11.py. -/
namespace Go.Proofs.YtngobbbinacomaaDoor.c11
open Go.Proofs.YtngobbbinacomaaDoor
open Go.RowKit
set_option linter.unusedVariables false
/-- What an operator makes, not wrapped yet. -/
def rawK (s x y : Int) : Int :=
  if s = 7 then wrap64 (x + y) else if s = 8 then wrap64 (x - y) else if s = 9 then wrap64 (x * y) else if s = 10 then wrap64 (x.tdiv y) else if s = 11 then x.tmod y
  else if s = 12 then bits .and .i64 x y else if s = 13 then bits .or .i64 x y else if s = 14 then bits .xor .i64 x y else if s = 16 then (if x = y then 1 else 0) else if s = 17 then (if x < y then 1 else 0)
  else if s = 28 then (if 0 ≤ y ∧ y ≤ 63 then wrap64 (x * 2 ^ y.toNat) else 0) else (if 0 ≤ y ∧ y ≤ 63 then x / 2 ^ y.toNat else 0)
def twoM (s a b x y : Int) : Int := if kindE s a b ≠ 0 then 0 else if (s = 10 ∨ s = 11) ∧ y = 0 then 0 else wrapK (kindM s a b) (rawK s x y)
def twoE (s a b y : Int) : Int := if kindE s a b ≠ 0 then kindE s a b else if (s = 10 ∨ s = 11) ∧ y = 0 then 21 else 0
set_option maxHeartbeats 800000 in
theorem made_7 (x y : Int) (w : World) : Calls Tryd.prog 117 #[.int .i64 7, .int .i64 x, .int .i64 y] w fun e w' => e = .returned (.int .i64 (wrap64 (x + y))) ∧ w = w' := by
  go_enter Tryd.func117, Tryd.ntmps117
  go_wp2
  all_goals go_ret
  all_goals exact ⟨xret (rfl), rfl⟩
set_option maxHeartbeats 800000 in
theorem made_8 (x y : Int) (w : World) : Calls Tryd.prog 117 #[.int .i64 8, .int .i64 x, .int .i64 y] w fun e w' => e = .returned (.int .i64 (wrap64 (x - y))) ∧ w = w' := by
  go_enter Tryd.func117, Tryd.ntmps117
  go_wp2
  all_goals go_ret
  all_goals exact ⟨xret (rfl), rfl⟩
set_option maxHeartbeats 800000 in
theorem made_9 (x y : Int) (w : World) : Calls Tryd.prog 117 #[.int .i64 9, .int .i64 x, .int .i64 y] w fun e w' => e = .returned (.int .i64 (wrap64 (x * y))) ∧ w = w' := by
  go_enter Tryd.func117, Tryd.ntmps117
  go_wp2
  all_goals go_ret
  all_goals exact ⟨xret (rfl), rfl⟩
set_option maxHeartbeats 800000 in
theorem made_10 (x y : Int) (w : World) (hy : ¬ y = 0) : Calls Tryd.prog 117 #[.int .i64 10, .int .i64 x, .int .i64 y] w fun e w' => e = .returned (.int .i64 (wrap64 (x.tdiv y))) ∧ w = w' := by
  go_enter Tryd.func117, Tryd.ntmps117
  go_wp2
  all_goals go_ret
  all_goals exact ⟨xret (rfl), rfl⟩
set_option maxHeartbeats 800000 in
theorem made_11 (x y : Int) (w : World) (hy : ¬ y = 0) : Calls Tryd.prog 117 #[.int .i64 11, .int .i64 x, .int .i64 y] w fun e w' => e = .returned (.int .i64 (x.tmod y)) ∧ w = w' := by
  go_enter Tryd.func117, Tryd.ntmps117
  go_wp2
  all_goals go_ret
  all_goals exact ⟨xret (rfl), rfl⟩
set_option maxHeartbeats 800000 in
theorem made_12 (x y : Int) (w : World) : Calls Tryd.prog 117 #[.int .i64 12, .int .i64 x, .int .i64 y] w fun e w' => e = .returned (.int .i64 (bits .and .i64 x y)) ∧ w = w' := by
  go_enter Tryd.func117, Tryd.ntmps117
  go_wp2
  all_goals go_ret
  all_goals exact ⟨xret (rfl), rfl⟩
set_option maxHeartbeats 800000 in
theorem made_13 (x y : Int) (w : World) : Calls Tryd.prog 117 #[.int .i64 13, .int .i64 x, .int .i64 y] w fun e w' => e = .returned (.int .i64 (bits .or .i64 x y)) ∧ w = w' := by
  go_enter Tryd.func117, Tryd.ntmps117
  go_wp2
  all_goals go_ret
  all_goals exact ⟨xret (rfl), rfl⟩
set_option maxHeartbeats 800000 in
theorem made_14 (x y : Int) (w : World) : Calls Tryd.prog 117 #[.int .i64 14, .int .i64 x, .int .i64 y] w fun e w' => e = .returned (.int .i64 (bits .xor .i64 x y)) ∧ w = w' := by
  go_enter Tryd.func117, Tryd.ntmps117
  go_wp2
  all_goals go_ret
  all_goals exact ⟨xret (rfl), rfl⟩
set_option maxHeartbeats 800000 in
theorem made_16 (x y : Int) (w : World) : Calls Tryd.prog 117 #[.int .i64 16, .int .i64 x, .int .i64 y] w fun e w' => e = .returned (.int .i64 (if x = y then 1 else 0)) ∧ w = w' := by
  go_enter Tryd.func117, Tryd.ntmps117
  go_wp2
  all_goals go_ret
  all_goals exact ⟨xret (by simp_all), rfl⟩
set_option maxHeartbeats 800000 in
theorem made_17 (x y : Int) (w : World) : Calls Tryd.prog 117 #[.int .i64 17, .int .i64 x, .int .i64 y] w fun e w' => e = .returned (.int .i64 (if x < y then 1 else 0)) ∧ w = w' := by
  go_enter Tryd.func117, Tryd.ntmps117
  go_wp2
  all_goals go_ret
  all_goals exact ⟨xret (by first | (simp_all; done) | (split <;> omega)), rfl⟩
set_option maxHeartbeats 800000 in
theorem made_28 (x y : Int) (w : World) (h0 : 0 ≤ y) (h1 : y ≤ 63) : Calls Tryd.prog 117 #[.int .i64 28, .int .i64 x, .int .i64 y] w fun e w' => e = .returned (.int .i64 (wrap64 (x * 2 ^ y.toNat))) ∧ w = w' := by
  go_enter Tryd.func117, Tryd.ntmps117
  go_wp2
  all_goals go_ret
  all_goals exact ⟨xret (by first | rfl | (exfalso; omega)), rfl⟩
set_option maxHeartbeats 800000 in
theorem made_28n (x y : Int) (w : World) (h0 : y < 0) : Calls Tryd.prog 117 #[.int .i64 28, .int .i64 x, .int .i64 y] w fun e w' => e = .returned (.int .i64 (0)) ∧ w = w' := by
  go_enter Tryd.func117, Tryd.ntmps117
  go_wp2
  all_goals go_ret
  all_goals exact ⟨xret (rfl), rfl⟩
set_option maxHeartbeats 800000 in
theorem made_28m (x y : Int) (w : World) (h0 : 0 ≤ y) (h1 : 63 < y) : Calls Tryd.prog 117 #[.int .i64 28, .int .i64 x, .int .i64 y] w fun e w' => e = .returned (.int .i64 (0)) ∧ w = w' := by
  go_enter Tryd.func117, Tryd.ntmps117
  go_wp2
  all_goals go_ret
  all_goals exact ⟨xret (rfl), rfl⟩
set_option maxHeartbeats 800000 in
theorem made_29 (x y : Int) (w : World) (h0 : 0 ≤ y) (h1 : y ≤ 63) : Calls Tryd.prog 117 #[.int .i64 29, .int .i64 x, .int .i64 y] w fun e w' => e = .returned (.int .i64 (x / 2 ^ y.toNat)) ∧ w = w' := by
  go_enter Tryd.func117, Tryd.ntmps117
  go_wp2
  all_goals go_ret
  all_goals exact ⟨xret (by first | rfl | (exfalso; omega)), rfl⟩
set_option maxHeartbeats 800000 in
theorem made_29n (x y : Int) (w : World) (h0 : y < 0) : Calls Tryd.prog 117 #[.int .i64 29, .int .i64 x, .int .i64 y] w fun e w' => e = .returned (.int .i64 (0)) ∧ w = w' := by
  go_enter Tryd.func117, Tryd.ntmps117
  go_wp2
  all_goals go_ret
  all_goals exact ⟨xret (rfl), rfl⟩
set_option maxHeartbeats 800000 in
theorem made_29m (x y : Int) (w : World) (h0 : 0 ≤ y) (h1 : 63 < y) : Calls Tryd.prog 117 #[.int .i64 29, .int .i64 x, .int .i64 y] w fun e w' => e = .returned (.int .i64 (0)) ∧ w = w' := by
  go_enter Tryd.func117, Tryd.ntmps117
  go_wp2
  all_goals go_ret
  all_goals exact ⟨xret (rfl), rfl⟩
theorem made_any (s x y : Int) (w : World) (hs : signK s = true) (hy : s = 10 ∨ s = 11 → ¬ y = 0) : Calls Tryd.prog 117 #[.int .i64 s, .int .i64 x, .int .i64 y] w fun e w' => e = .returned (.int .i64 (rawK s x y)) ∧ w = w' := by
  by_cases h7 : s = 7
  · subst h7; exact made_7 x y w
  by_cases h8 : s = 8
  · subst h8; exact made_8 x y w
  by_cases h9 : s = 9
  · subst h9; exact made_9 x y w
  by_cases h10 : s = 10
  · subst h10; exact made_10 x y w (hy (by omega))
  by_cases h11 : s = 11
  · subst h11; exact made_11 x y w (hy (by omega))
  by_cases h12 : s = 12
  · subst h12; exact made_12 x y w
  by_cases h13 : s = 13
  · subst h13; exact made_13 x y w
  by_cases h14 : s = 14
  · subst h14; exact made_14 x y w
  by_cases h16 : s = 16
  · subst h16; exact made_16 x y w
  by_cases h17 : s = 17
  · subst h17; exact made_17 x y w
  by_cases h28 : s = 28
  · subst h28
    by_cases g0 : y < 0
    · rw [show rawK 28 x y = 0 by simp [rawK]; omega]; exact made_28n x y w g0
    · by_cases g1 : y ≤ 63
      · have e : rawK 28 x y = wrap64 (x * 2 ^ y.toNat) := by unfold rawK; simp; omega
        rw [e]; exact made_28 x y w (by omega) g1
      · rw [show rawK 28 x y = 0 by simp [rawK]; omega]; exact made_28m x y w (by omega) (by omega)
  by_cases h29 : s = 29
  · subst h29
    by_cases g0 : y < 0
    · rw [show rawK 29 x y = 0 by simp [rawK]; omega]; exact made_29n x y w g0
    · by_cases g1 : y ≤ 63
      · have e : rawK 29 x y = x / 2 ^ y.toNat := by unfold rawK; simp; omega
        rw [e]; exact made_29 x y w (by omega) g1
      · rw [show rawK 29 x y = 0 by simp [rawK]; omega]; exact made_29m x y w (by omega) (by omega)
  exact absurd hs (by simp [signK, h7, h8, h9, h10, h11, h12, h13, h14, h16, h17, h28, h29])
set_option maxHeartbeats 1000000 in
theorem ptwo_bad (s a b x y m e : Int) (w : World) (K : ∀ u, Calls Tryd.prog 109 #[.int .i64 s, .int .i64 a, .int .i64 b] u fun r u' => r = .returned (.tuple #[.int .i64 m, .int .i64 e]) ∧ Below u.heap.size u u') (he : (e != 0) = true) (he' : (e == 0) = false) :
    Calls Tryd.prog 108 #[.int .i64 s, .int .i64 a, .int .i64 b, .int .i64 x, .int .i64 y] w fun r w' => r = .returned (.tuple #[.int .i64 (0), .int .i64 (e)]) ∧ Below w.heap.size w w' := by
  have HK := Lib.hid K
  clear K
  go_enter Tryd.func108, Tryd.ntmps108
  go_wp2_with fail
  refine (HK.out _).mono ?_
  rintro r u1 ⟨rfl, hb⟩
  have HB := Lib.hid hb
  clear hb
  go_wp2
  go_ret2
  exact ⟨rfl, HB.out⟩
set_option maxHeartbeats 1000000 in
theorem ptwo_div10 (s a b x y m e : Int) (w : World) (K : ∀ u, Calls Tryd.prog 109 #[.int .i64 s, .int .i64 a, .int .i64 b] u fun r u' => r = .returned (.tuple #[.int .i64 m, .int .i64 e]) ∧ Below u.heap.size u u') (he : e = 0) (hs : s = 10) (hy : y = 0) :
    Calls Tryd.prog 108 #[.int .i64 s, .int .i64 a, .int .i64 b, .int .i64 x, .int .i64 y] w fun r w' => r = .returned (.tuple #[.int .i64 (0), .int .i64 (21)]) ∧ Below w.heap.size w w' := by
  have HK := Lib.hid K
  clear K
  subst he; subst hs; subst hy
  go_enter Tryd.func108, Tryd.ntmps108
  go_wp2_with fail
  refine (HK.out _).mono ?_
  rintro r u1 ⟨rfl, hb⟩
  have HB := Lib.hid hb
  clear hb
  go_wp2
  go_ret2
  exact ⟨rfl, HB.out⟩
set_option maxHeartbeats 1000000 in
theorem ptwo_div11 (s a b x y m e : Int) (w : World) (K : ∀ u, Calls Tryd.prog 109 #[.int .i64 s, .int .i64 a, .int .i64 b] u fun r u' => r = .returned (.tuple #[.int .i64 m, .int .i64 e]) ∧ Below u.heap.size u u') (he : e = 0) (hs : s = 11) (hy : y = 0) :
    Calls Tryd.prog 108 #[.int .i64 s, .int .i64 a, .int .i64 b, .int .i64 x, .int .i64 y] w fun r w' => r = .returned (.tuple #[.int .i64 (0), .int .i64 (21)]) ∧ Below w.heap.size w w' := by
  have HK := Lib.hid K
  clear K
  subst he; subst hs; subst hy
  go_enter Tryd.func108, Tryd.ntmps108
  go_wp2_with fail
  refine (HK.out _).mono ?_
  rintro r u1 ⟨rfl, hb⟩
  have HB := Lib.hid hb
  clear hb
  go_wp2
  go_ret2
  exact ⟨rfl, HB.out⟩
set_option maxHeartbeats 1000000 in
theorem rtwo_bad (s a b x y m e : Int) (w : World) (K : ∀ u, Calls Tryd.prog 42 #[.int .i64 s, .int .i64 a, .int .i64 b] u fun r u' => r = .returned (.tuple #[.int .i64 m, .int .i64 e]) ∧ u = u') (he : (e != 0) = true) (he' : (e == 0) = false) :
    Calls Tryd.prog 27 #[.int .i64 s, .int .i64 a, .int .i64 b, .int .i64 x, .int .i64 y] w fun r w' => r = .returned (.tuple #[.int .i64 (0), .int .i64 (e)]) ∧ w = w' := by
  have HK := Lib.hid K
  clear K
  go_enter Tryd.func27, Tryd.ntmps27
  go_wp2_with fail
  refine (HK.out _).mono ?_
  rintro r u1 ⟨rfl, hb⟩
  subst hb
  go_wp2
  go_ret2
  exact ⟨rfl, rfl⟩
set_option maxHeartbeats 1000000 in
theorem rtwo_div10 (s a b x y m e : Int) (w : World) (K : ∀ u, Calls Tryd.prog 42 #[.int .i64 s, .int .i64 a, .int .i64 b] u fun r u' => r = .returned (.tuple #[.int .i64 m, .int .i64 e]) ∧ u = u') (he : e = 0) (hs : s = 10) (hy : y = 0) :
    Calls Tryd.prog 27 #[.int .i64 s, .int .i64 a, .int .i64 b, .int .i64 x, .int .i64 y] w fun r w' => r = .returned (.tuple #[.int .i64 (0), .int .i64 (21)]) ∧ w = w' := by
  have HK := Lib.hid K
  clear K
  subst he; subst hs; subst hy
  go_enter Tryd.func27, Tryd.ntmps27
  go_wp2_with fail
  refine (HK.out _).mono ?_
  rintro r u1 ⟨rfl, hb⟩
  subst hb
  go_wp2
  go_ret2
  exact ⟨rfl, rfl⟩
set_option maxHeartbeats 1000000 in
theorem rtwo_div11 (s a b x y m e : Int) (w : World) (K : ∀ u, Calls Tryd.prog 42 #[.int .i64 s, .int .i64 a, .int .i64 b] u fun r u' => r = .returned (.tuple #[.int .i64 m, .int .i64 e]) ∧ u = u') (he : e = 0) (hs : s = 11) (hy : y = 0) :
    Calls Tryd.prog 27 #[.int .i64 s, .int .i64 a, .int .i64 b, .int .i64 x, .int .i64 y] w fun r w' => r = .returned (.tuple #[.int .i64 (0), .int .i64 (21)]) ∧ w = w' := by
  have HK := Lib.hid K
  clear K
  subst he; subst hs; subst hy
  go_enter Tryd.func27, Tryd.ntmps27
  go_wp2_with fail
  refine (HK.out _).mono ?_
  rintro r u1 ⟨rfl, hb⟩
  subst hb
  go_wp2
  go_ret2
  exact ⟨rfl, rfl⟩
set_option maxHeartbeats 1000000 in
theorem ptwo_fine10 (s a b x y m e : Int) (w : World) (K : ∀ u, Calls Tryd.prog 109 #[.int .i64 s, .int .i64 a, .int .i64 b] u fun r u' => r = .returned (.tuple #[.int .i64 m, .int .i64 e]) ∧ Below u.heap.size u u') (he : e = 0) (h10 : s = 10) (hyz : (y == 0) = false) :
    Calls Tryd.prog 108 #[.int .i64 s, .int .i64 a, .int .i64 b, .int .i64 x, .int .i64 y] w fun r w' => r = .returned (.tuple #[.int .i64 (wrapK m (rawK s x y)), .int .i64 (0)]) ∧ Below w.heap.size w w' := by
  have HK := Lib.hid K
  clear K
  have hs : signK s = true := by subst h10; rfl
  have hy : s = 10 ∨ s = 11 → ¬ y = 0 := fun _ => by simpa using hyz
  have HM := Lib.hid (fun u => made_any s x y u hs hy)
  clear hs hy
  subst he; subst h10
  go_enter Tryd.func108, Tryd.ntmps108
  go_wp2_with fail
  refine (HK.out _).mono ?_
  rintro r u1 ⟨rfl, hb⟩
  have HB := Lib.hid hb
  clear hb
  go_wp2_with (first | (go_at_call 117; (with_reducible refine (HM.out _).mono ?_); rintro r _ ⟨rfl, rfl⟩) | (go_at_call 88; (with_reducible refine (pwrap_any _ _ _).mono ?_); rintro r _ ⟨rfl, rfl⟩))
  go_ret2
  exact ⟨rfl, HB.out⟩
set_option maxHeartbeats 1000000 in
theorem ptwo_fine11 (s a b x y m e : Int) (w : World) (K : ∀ u, Calls Tryd.prog 109 #[.int .i64 s, .int .i64 a, .int .i64 b] u fun r u' => r = .returned (.tuple #[.int .i64 m, .int .i64 e]) ∧ Below u.heap.size u u') (he : e = 0) (h10 : s = 11) (hyz : (y == 0) = false) :
    Calls Tryd.prog 108 #[.int .i64 s, .int .i64 a, .int .i64 b, .int .i64 x, .int .i64 y] w fun r w' => r = .returned (.tuple #[.int .i64 (wrapK m (rawK s x y)), .int .i64 (0)]) ∧ Below w.heap.size w w' := by
  have HK := Lib.hid K
  clear K
  have hs : signK s = true := by subst h10; rfl
  have hy : s = 10 ∨ s = 11 → ¬ y = 0 := fun _ => by simpa using hyz
  have HM := Lib.hid (fun u => made_any s x y u hs hy)
  clear hs hy
  subst he; subst h10
  go_enter Tryd.func108, Tryd.ntmps108
  go_wp2_with fail
  refine (HK.out _).mono ?_
  rintro r u1 ⟨rfl, hb⟩
  have HB := Lib.hid hb
  clear hb
  go_wp2_with (first | (go_at_call 117; (with_reducible refine (HM.out _).mono ?_); rintro r _ ⟨rfl, rfl⟩) | (go_at_call 88; (with_reducible refine (pwrap_any _ _ _).mono ?_); rintro r _ ⟨rfl, rfl⟩))
  go_ret2
  exact ⟨rfl, HB.out⟩
set_option maxHeartbeats 1000000 in
theorem ptwo_fineelse (s a b x y m e : Int) (w : World) (K : ∀ u, Calls Tryd.prog 109 #[.int .i64 s, .int .i64 a, .int .i64 b] u fun r u' => r = .returned (.tuple #[.int .i64 m, .int .i64 e]) ∧ Below u.heap.size u u') (he : e = 0) (hs : signK s = true) (h10 : (s == 10) = false) (h11 : (s == 11) = false) :
    Calls Tryd.prog 108 #[.int .i64 s, .int .i64 a, .int .i64 b, .int .i64 x, .int .i64 y] w fun r w' => r = .returned (.tuple #[.int .i64 (wrapK m (rawK s x y)), .int .i64 (0)]) ∧ Below w.heap.size w w' := by
  have HK := Lib.hid K
  clear K
  have hy : s = 10 ∨ s = 11 → ¬ y = 0 := fun h => by simp at h10 h11; omega
  have HM := Lib.hid (fun u => made_any s x y u hs hy)
  clear hs hy
  subst he
  go_enter Tryd.func108, Tryd.ntmps108
  go_wp2_with fail
  refine (HK.out _).mono ?_
  rintro r u1 ⟨rfl, hb⟩
  have HB := Lib.hid hb
  clear hb
  go_wp2_with (first | (go_at_call 117; (with_reducible refine (HM.out _).mono ?_); rintro r _ ⟨rfl, rfl⟩) | (go_at_call 88; (with_reducible refine (pwrap_any _ _ _).mono ?_); rintro r _ ⟨rfl, rfl⟩))
  go_ret2
  exact ⟨rfl, HB.out⟩
set_option maxHeartbeats 1000000 in
theorem rtwo_fine7 (s a b x y m e : Int) (w : World) (K : ∀ u, Calls Tryd.prog 42 #[.int .i64 s, .int .i64 a, .int .i64 b] u fun r u' => r = .returned (.tuple #[.int .i64 m, .int .i64 e]) ∧ u = u') (he : e = 0) (hs : s = 7) :
    Calls Tryd.prog 27 #[.int .i64 s, .int .i64 a, .int .i64 b, .int .i64 x, .int .i64 y] w fun r w' => r = .returned (.tuple #[.int .i64 (wrapK m (wrap64 (x + y))), .int .i64 (0)]) ∧ w = w' := by
  have HK := Lib.hid K
  clear K
  subst he; subst hs
  go_enter Tryd.func27, Tryd.ntmps27
  go_wp2_with fail
  refine (HK.out _).mono ?_
  rintro r u1 ⟨rfl, hb⟩
  subst hb
  go_wp2_with (first | (go_at_call 43; go_in) | (go_at_call 26; (with_reducible refine (rwrap_any _ _ _).mono ?_); rintro r _ ⟨rfl, rfl⟩))
  go_ret2
  exact ⟨rfl, rfl⟩
set_option maxHeartbeats 1000000 in
theorem rtwo_fine8 (s a b x y m e : Int) (w : World) (K : ∀ u, Calls Tryd.prog 42 #[.int .i64 s, .int .i64 a, .int .i64 b] u fun r u' => r = .returned (.tuple #[.int .i64 m, .int .i64 e]) ∧ u = u') (he : e = 0) (hs : s = 8) :
    Calls Tryd.prog 27 #[.int .i64 s, .int .i64 a, .int .i64 b, .int .i64 x, .int .i64 y] w fun r w' => r = .returned (.tuple #[.int .i64 (wrapK m (wrap64 (x - y))), .int .i64 (0)]) ∧ w = w' := by
  have HK := Lib.hid K
  clear K
  subst he; subst hs
  go_enter Tryd.func27, Tryd.ntmps27
  go_wp2_with fail
  refine (HK.out _).mono ?_
  rintro r u1 ⟨rfl, hb⟩
  subst hb
  go_wp2_with (first | (go_at_call 43; go_in) | (go_at_call 26; (with_reducible refine (rwrap_any _ _ _).mono ?_); rintro r _ ⟨rfl, rfl⟩))
  go_ret2
  exact ⟨rfl, rfl⟩
set_option maxHeartbeats 1000000 in
theorem rtwo_fine9 (s a b x y m e : Int) (w : World) (K : ∀ u, Calls Tryd.prog 42 #[.int .i64 s, .int .i64 a, .int .i64 b] u fun r u' => r = .returned (.tuple #[.int .i64 m, .int .i64 e]) ∧ u = u') (he : e = 0) (hs : s = 9) :
    Calls Tryd.prog 27 #[.int .i64 s, .int .i64 a, .int .i64 b, .int .i64 x, .int .i64 y] w fun r w' => r = .returned (.tuple #[.int .i64 (wrapK m (wrap64 (x * y))), .int .i64 (0)]) ∧ w = w' := by
  have HK := Lib.hid K
  clear K
  subst he; subst hs
  go_enter Tryd.func27, Tryd.ntmps27
  go_wp2_with fail
  refine (HK.out _).mono ?_
  rintro r u1 ⟨rfl, hb⟩
  subst hb
  go_wp2_with (first | (go_at_call 43; go_in) | (go_at_call 26; (with_reducible refine (rwrap_any _ _ _).mono ?_); rintro r _ ⟨rfl, rfl⟩))
  go_ret2
  exact ⟨rfl, rfl⟩
set_option maxHeartbeats 1000000 in
theorem rtwo_fine10 (s a b x y m e : Int) (w : World) (K : ∀ u, Calls Tryd.prog 42 #[.int .i64 s, .int .i64 a, .int .i64 b] u fun r u' => r = .returned (.tuple #[.int .i64 m, .int .i64 e]) ∧ u = u') (he : e = 0) (hs : s = 10) (hy : ¬ y = 0) :
    Calls Tryd.prog 27 #[.int .i64 s, .int .i64 a, .int .i64 b, .int .i64 x, .int .i64 y] w fun r w' => r = .returned (.tuple #[.int .i64 (wrapK m (wrap64 (x.tdiv y))), .int .i64 (0)]) ∧ w = w' := by
  have HK := Lib.hid K
  clear K
  subst he; subst hs
  go_enter Tryd.func27, Tryd.ntmps27
  go_wp2_with fail
  refine (HK.out _).mono ?_
  rintro r u1 ⟨rfl, hb⟩
  subst hb
  go_wp2_with (first | (go_at_call 43; go_in) | (go_at_call 26; (with_reducible refine (rwrap_any _ _ _).mono ?_); rintro r _ ⟨rfl, rfl⟩))
  go_ret2
  exact ⟨rfl, rfl⟩
set_option maxHeartbeats 1000000 in
theorem rtwo_fine11 (s a b x y m e : Int) (w : World) (K : ∀ u, Calls Tryd.prog 42 #[.int .i64 s, .int .i64 a, .int .i64 b] u fun r u' => r = .returned (.tuple #[.int .i64 m, .int .i64 e]) ∧ u = u') (he : e = 0) (hs : s = 11) (hy : ¬ y = 0) :
    Calls Tryd.prog 27 #[.int .i64 s, .int .i64 a, .int .i64 b, .int .i64 x, .int .i64 y] w fun r w' => r = .returned (.tuple #[.int .i64 (wrapK m (x.tmod y)), .int .i64 (0)]) ∧ w = w' := by
  have HK := Lib.hid K
  clear K
  subst he; subst hs
  go_enter Tryd.func27, Tryd.ntmps27
  go_wp2_with fail
  refine (HK.out _).mono ?_
  rintro r u1 ⟨rfl, hb⟩
  subst hb
  go_wp2_with (first | (go_at_call 43; go_in) | (go_at_call 26; (with_reducible refine (rwrap_any _ _ _).mono ?_); rintro r _ ⟨rfl, rfl⟩))
  go_ret2
  exact ⟨rfl, rfl⟩
set_option maxHeartbeats 1000000 in
theorem rtwo_fine12 (s a b x y m e : Int) (w : World) (K : ∀ u, Calls Tryd.prog 42 #[.int .i64 s, .int .i64 a, .int .i64 b] u fun r u' => r = .returned (.tuple #[.int .i64 m, .int .i64 e]) ∧ u = u') (he : e = 0) (hs : s = 12) :
    Calls Tryd.prog 27 #[.int .i64 s, .int .i64 a, .int .i64 b, .int .i64 x, .int .i64 y] w fun r w' => r = .returned (.tuple #[.int .i64 (wrapK m (bits .and .i64 x y)), .int .i64 (0)]) ∧ w = w' := by
  have HK := Lib.hid K
  clear K
  subst he; subst hs
  go_enter Tryd.func27, Tryd.ntmps27
  go_wp2_with fail
  refine (HK.out _).mono ?_
  rintro r u1 ⟨rfl, hb⟩
  subst hb
  go_wp2_with (first | (go_at_call 43; go_in) | (go_at_call 26; (with_reducible refine (rwrap_any _ _ _).mono ?_); rintro r _ ⟨rfl, rfl⟩))
  go_ret2
  exact ⟨rfl, rfl⟩
set_option maxHeartbeats 1000000 in
theorem rtwo_fine13 (s a b x y m e : Int) (w : World) (K : ∀ u, Calls Tryd.prog 42 #[.int .i64 s, .int .i64 a, .int .i64 b] u fun r u' => r = .returned (.tuple #[.int .i64 m, .int .i64 e]) ∧ u = u') (he : e = 0) (hs : s = 13) :
    Calls Tryd.prog 27 #[.int .i64 s, .int .i64 a, .int .i64 b, .int .i64 x, .int .i64 y] w fun r w' => r = .returned (.tuple #[.int .i64 (wrapK m (bits .or .i64 x y)), .int .i64 (0)]) ∧ w = w' := by
  have HK := Lib.hid K
  clear K
  subst he; subst hs
  go_enter Tryd.func27, Tryd.ntmps27
  go_wp2_with fail
  refine (HK.out _).mono ?_
  rintro r u1 ⟨rfl, hb⟩
  subst hb
  go_wp2_with (first | (go_at_call 43; go_in) | (go_at_call 26; (with_reducible refine (rwrap_any _ _ _).mono ?_); rintro r _ ⟨rfl, rfl⟩))
  go_ret2
  exact ⟨rfl, rfl⟩
set_option maxHeartbeats 1000000 in
theorem rtwo_fine14 (s a b x y m e : Int) (w : World) (K : ∀ u, Calls Tryd.prog 42 #[.int .i64 s, .int .i64 a, .int .i64 b] u fun r u' => r = .returned (.tuple #[.int .i64 m, .int .i64 e]) ∧ u = u') (he : e = 0) (hs : s = 14) :
    Calls Tryd.prog 27 #[.int .i64 s, .int .i64 a, .int .i64 b, .int .i64 x, .int .i64 y] w fun r w' => r = .returned (.tuple #[.int .i64 (wrapK m (bits .xor .i64 x y)), .int .i64 (0)]) ∧ w = w' := by
  have HK := Lib.hid K
  clear K
  subst he; subst hs
  go_enter Tryd.func27, Tryd.ntmps27
  go_wp2_with fail
  refine (HK.out _).mono ?_
  rintro r u1 ⟨rfl, hb⟩
  subst hb
  go_wp2_with (first | (go_at_call 43; go_in) | (go_at_call 26; (with_reducible refine (rwrap_any _ _ _).mono ?_); rintro r _ ⟨rfl, rfl⟩))
  go_ret2
  exact ⟨rfl, rfl⟩
set_option maxHeartbeats 1000000 in
theorem rtwo_fine16t (s a b x y m e : Int) (w : World) (K : ∀ u, Calls Tryd.prog 42 #[.int .i64 s, .int .i64 a, .int .i64 b] u fun r u' => r = .returned (.tuple #[.int .i64 m, .int .i64 e]) ∧ u = u') (he : e = 0) (hs : s = 16) (hy : (x == y) = true) :
    Calls Tryd.prog 27 #[.int .i64 s, .int .i64 a, .int .i64 b, .int .i64 x, .int .i64 y] w fun r w' => r = .returned (.tuple #[.int .i64 (wrapK m (1)), .int .i64 (0)]) ∧ w = w' := by
  have HK := Lib.hid K
  clear K
  subst he; subst hs
  go_enter Tryd.func27, Tryd.ntmps27
  go_wp2_with fail
  refine (HK.out _).mono ?_
  rintro r u1 ⟨rfl, hb⟩
  subst hb
  go_wp2_with (first | (go_at_call 43; go_in) | (go_at_call 26; (with_reducible refine (rwrap_any _ _ _).mono ?_); rintro r _ ⟨rfl, rfl⟩))
  go_ret2
  exact ⟨rfl, rfl⟩
set_option maxHeartbeats 1000000 in
theorem rtwo_fine16f (s a b x y m e : Int) (w : World) (K : ∀ u, Calls Tryd.prog 42 #[.int .i64 s, .int .i64 a, .int .i64 b] u fun r u' => r = .returned (.tuple #[.int .i64 m, .int .i64 e]) ∧ u = u') (he : e = 0) (hs : s = 16) (hy : (x == y) = false) :
    Calls Tryd.prog 27 #[.int .i64 s, .int .i64 a, .int .i64 b, .int .i64 x, .int .i64 y] w fun r w' => r = .returned (.tuple #[.int .i64 (wrapK m (0)), .int .i64 (0)]) ∧ w = w' := by
  have HK := Lib.hid K
  clear K
  subst he; subst hs
  go_enter Tryd.func27, Tryd.ntmps27
  go_wp2_with fail
  refine (HK.out _).mono ?_
  rintro r u1 ⟨rfl, hb⟩
  subst hb
  go_wp2_with (first | (go_at_call 43; go_in) | (go_at_call 26; (with_reducible refine (rwrap_any _ _ _).mono ?_); rintro r _ ⟨rfl, rfl⟩))
  go_ret2
  exact ⟨rfl, rfl⟩
set_option maxHeartbeats 1000000 in
theorem rtwo_fine17t (s a b x y m e : Int) (w : World) (K : ∀ u, Calls Tryd.prog 42 #[.int .i64 s, .int .i64 a, .int .i64 b] u fun r u' => r = .returned (.tuple #[.int .i64 m, .int .i64 e]) ∧ u = u') (he : e = 0) (hs : s = 17) (hy : x < y) :
    Calls Tryd.prog 27 #[.int .i64 s, .int .i64 a, .int .i64 b, .int .i64 x, .int .i64 y] w fun r w' => r = .returned (.tuple #[.int .i64 (wrapK m (1)), .int .i64 (0)]) ∧ w = w' := by
  have HK := Lib.hid K
  clear K
  subst he; subst hs
  go_enter Tryd.func27, Tryd.ntmps27
  go_wp2_with fail
  refine (HK.out _).mono ?_
  rintro r u1 ⟨rfl, hb⟩
  subst hb
  go_wp2_with (first | (go_at_call 43; go_in) | (go_at_call 26; (with_reducible refine (rwrap_any _ _ _).mono ?_); rintro r _ ⟨rfl, rfl⟩))
  go_ret2
  exact ⟨rfl, rfl⟩
set_option maxHeartbeats 1000000 in
theorem rtwo_fine17f (s a b x y m e : Int) (w : World) (K : ∀ u, Calls Tryd.prog 42 #[.int .i64 s, .int .i64 a, .int .i64 b] u fun r u' => r = .returned (.tuple #[.int .i64 m, .int .i64 e]) ∧ u = u') (he : e = 0) (hs : s = 17) (hy : ¬ x < y) (hy' : decide (x < y) = false) :
    Calls Tryd.prog 27 #[.int .i64 s, .int .i64 a, .int .i64 b, .int .i64 x, .int .i64 y] w fun r w' => r = .returned (.tuple #[.int .i64 (wrapK m (0)), .int .i64 (0)]) ∧ w = w' := by
  have HK := Lib.hid K
  clear K
  subst he; subst hs
  go_enter Tryd.func27, Tryd.ntmps27
  go_wp2_with fail
  refine (HK.out _).mono ?_
  rintro r u1 ⟨rfl, hb⟩
  subst hb
  go_wp2_with (first | (go_at_call 43; go_in) | (go_at_call 26; (with_reducible refine (rwrap_any _ _ _).mono ?_); rintro r _ ⟨rfl, rfl⟩))
  go_ret2
  exact ⟨rfl, rfl⟩
set_option maxHeartbeats 1000000 in
theorem rtwo_fine28 (s a b x y m e : Int) (w : World) (K : ∀ u, Calls Tryd.prog 42 #[.int .i64 s, .int .i64 a, .int .i64 b] u fun r u' => r = .returned (.tuple #[.int .i64 m, .int .i64 e]) ∧ u = u') (he : e = 0) (hs : s = 28) (h0 : 0 ≤ y) (h1 : y ≤ 63) :
    Calls Tryd.prog 27 #[.int .i64 s, .int .i64 a, .int .i64 b, .int .i64 x, .int .i64 y] w fun r w' => r = .returned (.tuple #[.int .i64 (wrapK m (wrap64 (x * 2 ^ y.toNat))), .int .i64 (0)]) ∧ w = w' := by
  have HK := Lib.hid K
  clear K
  subst he; subst hs
  go_enter Tryd.func27, Tryd.ntmps27
  go_wp2_with fail
  refine (HK.out _).mono ?_
  rintro r u1 ⟨rfl, hb⟩
  subst hb
  go_wp2_with (first | (go_at_call 43; go_in) | (go_at_call 26; (with_reducible refine (rwrap_any _ _ _).mono ?_); rintro r _ ⟨rfl, rfl⟩))
  go_ret2
  exact ⟨rfl, rfl⟩
set_option maxHeartbeats 1000000 in
theorem rtwo_fine28n (s a b x y m e : Int) (w : World) (K : ∀ u, Calls Tryd.prog 42 #[.int .i64 s, .int .i64 a, .int .i64 b] u fun r u' => r = .returned (.tuple #[.int .i64 m, .int .i64 e]) ∧ u = u') (he : e = 0) (hs : s = 28) (h0 : y < 0) (h0' : decide (0 ≤ y) = false) :
    Calls Tryd.prog 27 #[.int .i64 s, .int .i64 a, .int .i64 b, .int .i64 x, .int .i64 y] w fun r w' => r = .returned (.tuple #[.int .i64 (wrapK m (0)), .int .i64 (0)]) ∧ w = w' := by
  have HK := Lib.hid K
  clear K
  subst he; subst hs
  go_enter Tryd.func27, Tryd.ntmps27
  go_wp2_with fail
  refine (HK.out _).mono ?_
  rintro r u1 ⟨rfl, hb⟩
  subst hb
  go_wp2_with (first | (go_at_call 43; go_in) | (go_at_call 26; (with_reducible refine (rwrap_any _ _ _).mono ?_); rintro r _ ⟨rfl, rfl⟩))
  go_ret2
  exact ⟨rfl, rfl⟩
set_option maxHeartbeats 1000000 in
theorem rtwo_fine28m (s a b x y m e : Int) (w : World) (K : ∀ u, Calls Tryd.prog 42 #[.int .i64 s, .int .i64 a, .int .i64 b] u fun r u' => r = .returned (.tuple #[.int .i64 m, .int .i64 e]) ∧ u = u') (he : e = 0) (hs : s = 28) (h0 : 0 ≤ y) (h1 : 63 < y) (h1' : decide (y ≤ 63) = false) :
    Calls Tryd.prog 27 #[.int .i64 s, .int .i64 a, .int .i64 b, .int .i64 x, .int .i64 y] w fun r w' => r = .returned (.tuple #[.int .i64 (wrapK m (0)), .int .i64 (0)]) ∧ w = w' := by
  have HK := Lib.hid K
  clear K
  subst he; subst hs
  go_enter Tryd.func27, Tryd.ntmps27
  go_wp2_with fail
  refine (HK.out _).mono ?_
  rintro r u1 ⟨rfl, hb⟩
  subst hb
  go_wp2_with (first | (go_at_call 43; go_in) | (go_at_call 26; (with_reducible refine (rwrap_any _ _ _).mono ?_); rintro r _ ⟨rfl, rfl⟩))
  go_ret2
  exact ⟨rfl, rfl⟩
set_option maxHeartbeats 1000000 in
theorem rtwo_fine29 (s a b x y m e : Int) (w : World) (K : ∀ u, Calls Tryd.prog 42 #[.int .i64 s, .int .i64 a, .int .i64 b] u fun r u' => r = .returned (.tuple #[.int .i64 m, .int .i64 e]) ∧ u = u') (he : e = 0) (hs : s = 29) (h0 : 0 ≤ y) (h1 : y ≤ 63) :
    Calls Tryd.prog 27 #[.int .i64 s, .int .i64 a, .int .i64 b, .int .i64 x, .int .i64 y] w fun r w' => r = .returned (.tuple #[.int .i64 (wrapK m (x / 2 ^ y.toNat)), .int .i64 (0)]) ∧ w = w' := by
  have HK := Lib.hid K
  clear K
  subst he; subst hs
  go_enter Tryd.func27, Tryd.ntmps27
  go_wp2_with fail
  refine (HK.out _).mono ?_
  rintro r u1 ⟨rfl, hb⟩
  subst hb
  go_wp2_with (first | (go_at_call 43; go_in) | (go_at_call 26; (with_reducible refine (rwrap_any _ _ _).mono ?_); rintro r _ ⟨rfl, rfl⟩))
  go_ret2
  exact ⟨rfl, rfl⟩
set_option maxHeartbeats 1000000 in
theorem rtwo_fine29n (s a b x y m e : Int) (w : World) (K : ∀ u, Calls Tryd.prog 42 #[.int .i64 s, .int .i64 a, .int .i64 b] u fun r u' => r = .returned (.tuple #[.int .i64 m, .int .i64 e]) ∧ u = u') (he : e = 0) (hs : s = 29) (h0 : y < 0) (h0' : decide (0 ≤ y) = false) :
    Calls Tryd.prog 27 #[.int .i64 s, .int .i64 a, .int .i64 b, .int .i64 x, .int .i64 y] w fun r w' => r = .returned (.tuple #[.int .i64 (wrapK m (0)), .int .i64 (0)]) ∧ w = w' := by
  have HK := Lib.hid K
  clear K
  subst he; subst hs
  go_enter Tryd.func27, Tryd.ntmps27
  go_wp2_with fail
  refine (HK.out _).mono ?_
  rintro r u1 ⟨rfl, hb⟩
  subst hb
  go_wp2_with (first | (go_at_call 43; go_in) | (go_at_call 26; (with_reducible refine (rwrap_any _ _ _).mono ?_); rintro r _ ⟨rfl, rfl⟩))
  go_ret2
  exact ⟨rfl, rfl⟩
set_option maxHeartbeats 1000000 in
theorem rtwo_fine29m (s a b x y m e : Int) (w : World) (K : ∀ u, Calls Tryd.prog 42 #[.int .i64 s, .int .i64 a, .int .i64 b] u fun r u' => r = .returned (.tuple #[.int .i64 m, .int .i64 e]) ∧ u = u') (he : e = 0) (hs : s = 29) (h0 : 0 ≤ y) (h1 : 63 < y) (h1' : decide (y ≤ 63) = false) :
    Calls Tryd.prog 27 #[.int .i64 s, .int .i64 a, .int .i64 b, .int .i64 x, .int .i64 y] w fun r w' => r = .returned (.tuple #[.int .i64 (wrapK m (0)), .int .i64 (0)]) ∧ w = w' := by
  have HK := Lib.hid K
  clear K
  subst he; subst hs
  go_enter Tryd.func27, Tryd.ntmps27
  go_wp2_with fail
  refine (HK.out _).mono ?_
  rintro r u1 ⟨rfl, hb⟩
  subst hb
  go_wp2_with (first | (go_at_call 43; go_in) | (go_at_call 26; (with_reducible refine (rwrap_any _ _ _).mono ?_); rintro r _ ⟨rfl, rfl⟩))
  go_ret2
  exact ⟨rfl, rfl⟩
theorem ptwo_any (s a b x y : Int) (w : World) : Calls Tryd.prog 108 #[.int .i64 s, .int .i64 a, .int .i64 b, .int .i64 x, .int .i64 y] w fun r w' =>
    r = .returned (.tuple #[.int .i64 (twoM s a b x y), .int .i64 (twoE s a b y)]) ∧ Below w.heap.size w w' := by
  have K := fun u => pkind_any s a b u
  by_cases he : kindE s a b = 0
  · have hs : signK s = true := by
      by_cases h : signK s = true
      · exact h
      · exfalso; simp [kindE, h] at he
    have em : twoM s a b x y = if (s = 10 ∨ s = 11) ∧ y = 0 then 0 else wrapK (kindM s a b) (rawK s x y) := by simp [twoM, he]
    have ee : twoE s a b y = if (s = 10 ∨ s = 11) ∧ y = 0 then 21 else 0 := by simp [twoE, he]
    rw [em, ee]
    by_cases h10 : s = 10
    · by_cases hy : y = 0
      · rw [if_pos ⟨.inl h10, hy⟩, if_pos ⟨.inl h10, hy⟩]
        exact ptwo_div10 s a b x y _ _ w K he h10 hy
      · rw [if_neg (fun h => hy h.2), if_neg (fun h => hy h.2)]
        exact ptwo_fine10 s a b x y _ _ w K he h10 (by simpa using hy)
    · by_cases h11 : s = 11
      · by_cases hy : y = 0
        · rw [if_pos ⟨.inr h11, hy⟩, if_pos ⟨.inr h11, hy⟩]
          exact ptwo_div11 s a b x y _ _ w K he h11 hy
        · rw [if_neg (fun h => hy h.2), if_neg (fun h => hy h.2)]
          exact ptwo_fine11 s a b x y _ _ w K he h11 (by simpa using hy)
      · rw [if_neg (by omega), if_neg (by omega)]
        exact ptwo_fineelse s a b x y _ _ w K he hs (by simpa using h10) (by simpa using h11)
  · rw [show twoM s a b x y = 0 by simp [twoM, he], show twoE s a b y = kindE s a b by simp [twoE, he]]
    exact ptwo_bad s a b x y _ _ w K (by simpa using he) (by simpa using he)
theorem rtwo_any (s a b x y : Int) (w : World) : Calls Tryd.prog 27 #[.int .i64 s, .int .i64 a, .int .i64 b, .int .i64 x, .int .i64 y] w fun r w' =>
    r = .returned (.tuple #[.int .i64 (twoM s a b x y), .int .i64 (twoE s a b y)]) ∧ w = w' := by
  have K := fun u => rkind_any s a b u
  by_cases he : kindE s a b = 0
  · have hs : signK s = true := by
      by_cases h : signK s = true
      · exact h
      · exfalso; simp [kindE, h] at he
    have em : twoM s a b x y = if (s = 10 ∨ s = 11) ∧ y = 0 then 0 else wrapK (kindM s a b) (rawK s x y) := by simp [twoM, he]
    have ee : twoE s a b y = if (s = 10 ∨ s = 11) ∧ y = 0 then 21 else 0 := by simp [twoE, he]
    rw [em, ee]
    clear em ee
    generalize kindM s a b = m at *
    generalize kindE s a b = e at *
    by_cases h10 : s = 10
    · by_cases hy : y = 0
      · rw [if_pos ⟨.inl h10, hy⟩, if_pos ⟨.inl h10, hy⟩]
        exact rtwo_div10 s a b x y _ _ w K he h10 hy
      · rw [if_neg (fun h => hy h.2), if_neg (fun h => hy h.2)]
        subst h10
        exact rtwo_fine10 10 a b x y m e w K he rfl hy
    by_cases h11 : s = 11
    · by_cases hy : y = 0
      · rw [if_pos ⟨.inr h11, hy⟩, if_pos ⟨.inr h11, hy⟩]
        exact rtwo_div11 s a b x y _ _ w K he h11 hy
      · rw [if_neg (fun h => hy h.2), if_neg (fun h => hy h.2)]
        subst h11
        exact rtwo_fine11 11 a b x y m e w K he rfl hy
    rw [if_neg (by omega), if_neg (by omega)]
    by_cases h7 : s = 7
    · subst h7
      exact rtwo_fine7 7 a b x y m e w K he rfl
    by_cases h8 : s = 8
    · subst h8
      exact rtwo_fine8 8 a b x y m e w K he rfl
    by_cases h9 : s = 9
    · subst h9
      exact rtwo_fine9 9 a b x y m e w K he rfl
    by_cases h12 : s = 12
    · subst h12
      exact rtwo_fine12 12 a b x y m e w K he rfl
    by_cases h13 : s = 13
    · subst h13
      exact rtwo_fine13 13 a b x y m e w K he rfl
    by_cases h14 : s = 14
    · subst h14
      exact rtwo_fine14 14 a b x y m e w K he rfl
    by_cases h16 : s = 16
    · subst h16
      by_cases hy : x = y
      · rw [show rawK 16 x y = 1 by simp [rawK, hy]]
        exact rtwo_fine16t 16 a b x y m e w K he rfl (by simpa using hy)
      · rw [show rawK 16 x y = 0 by simp [rawK, hy]]
        exact rtwo_fine16f 16 a b x y m e w K he rfl (by simpa using hy)
    by_cases h17 : s = 17
    · subst h17
      by_cases hy : x < y
      · rw [show rawK 17 x y = 1 by simp [rawK, hy]]
        exact rtwo_fine17t 17 a b x y m e w K he rfl hy
      · rw [show rawK 17 x y = 0 by simp [rawK, hy]]
        exact rtwo_fine17f 17 a b x y m e w K he rfl hy (by simpa using hy)
    by_cases h28 : s = 28
    · subst h28
      by_cases g0 : y < 0
      · rw [show rawK 28 x y = 0 by simp [rawK]; omega]
        exact rtwo_fine28n 28 a b x y m e w K he rfl g0 (by simpa using g0)
      · by_cases g1 : y ≤ 63
        · have er : rawK 28 x y = wrap64 (x * 2 ^ y.toNat) := by unfold rawK; simp; omega
          rw [er]
          exact rtwo_fine28 28 a b x y m e w K he rfl (by omega) g1
        · rw [show rawK 28 x y = 0 by simp [rawK]; omega]
          exact rtwo_fine28m 28 a b x y m e w K he rfl (by omega) (by omega) (by simpa using g1)
    by_cases h29 : s = 29
    · subst h29
      by_cases g0 : y < 0
      · rw [show rawK 29 x y = 0 by simp [rawK]; omega]
        exact rtwo_fine29n 29 a b x y m e w K he rfl g0 (by simpa using g0)
      · by_cases g1 : y ≤ 63
        · have er : rawK 29 x y = x / 2 ^ y.toNat := by unfold rawK; simp; omega
          rw [er]
          exact rtwo_fine29 29 a b x y m e w K he rfl (by omega) g1
        · rw [show rawK 29 x y = 0 by simp [rawK]; omega]
          exact rtwo_fine29m 29 a b x y m e w K he rfl (by omega) (by omega) (by simpa using g1)
    exact absurd hs (by simp [signK, h7, h8, h9, h10, h11, h12, h13, h14, h16, h17, h28, h29])
  · rw [show twoM s a b x y = 0 by simp [twoM, he], show twoE s a b y = kindE s a b by simp [twoE, he]]
    exact rtwo_bad s a b x y _ _ w K (by simpa using he) (by simpa using he)
end Go.Proofs.YtngobbbinacomaaDoor.c11
/- Chapter 11: Not and Conv, the program's and the document's; the laws' own helpers. -/
namespace Go.Proofs.YtngobbbinacomaaDoor.c11
open Go.Proofs.YtngobbbinacomaaDoor
open Go.RowKit
set_option linter.unusedVariables false
theorem pconv_any (a b x : Int) (w : World) : Calls Tryd.prog 107 #[.int .i64 a, .int .i64 b, .int .i64 x] w fun e w' => e = .returned (.int .i64 (wrapK b x)) ∧ w = w' := by
  go_enter Tryd.func107, Tryd.ntmps107
  go_wp2_with fail
  refine (pwrap_any _ _ _).mono ?_
  rintro e _ ⟨rfl, rfl⟩
  go_wp2
  go_ret
  exact ⟨rfl, rfl⟩
theorem rconv_any (a b x : Int) (w : World) : Calls Tryd.prog 78 #[.int .i64 a, .int .i64 b, .int .i64 x] w fun e w' => e = .returned (.int .i64 (wrapK b x)) ∧ w = w' := by
  go_enter Tryd.func78, Tryd.ntmps78
  go_wp2_with fail
  refine (rwrap_any _ _ _).mono ?_
  rintro e _ ⟨rfl, rfl⟩
  go_wp2
  go_ret
  exact ⟨rfl, rfl⟩
/-- A turned value. -/
def notK (k x : Int) : Int := if k = 1 then wrap64 (1 - x) else if k = 2 ∨ k = 3 then wrapK k (bits .xor .i64 (-1) x) else 0
theorem pnot_1 (x : Int) (w : World) : Calls Tryd.prog 106 #[.int .i64 1, .int .i64 x] w fun e w' => e = .returned (.int .i64 (wrap64 (1 - x))) ∧ w = w' := by
  go_enter Tryd.func106, Tryd.ntmps106
  go_wp2_with (go_at_call 88; (with_reducible refine (pwrap_any _ _ _).mono ?_); rintro e _ ⟨rfl, rfl⟩)
  go_ret
  exact ⟨rfl, rfl⟩
theorem pnot_2 (x : Int) (w : World) : Calls Tryd.prog 106 #[.int .i64 2, .int .i64 x] w fun e w' => e = .returned (.int .i64 (wrapK 2 (bits .xor .i64 (-1) x))) ∧ w = w' := by
  go_enter Tryd.func106, Tryd.ntmps106
  go_wp2_with (go_at_call 88; (with_reducible refine (pwrap_any _ _ _).mono ?_); rintro e _ ⟨rfl, rfl⟩)
  go_ret
  exact ⟨rfl, rfl⟩
theorem pnot_3 (x : Int) (w : World) : Calls Tryd.prog 106 #[.int .i64 3, .int .i64 x] w fun e w' => e = .returned (.int .i64 (wrapK 3 (bits .xor .i64 (-1) x))) ∧ w = w' := by
  go_enter Tryd.func106, Tryd.ntmps106
  go_wp2_with (go_at_call 88; (with_reducible refine (pwrap_any _ _ _).mono ?_); rintro e _ ⟨rfl, rfl⟩)
  go_ret
  exact ⟨rfl, rfl⟩
theorem pnot_x (k x : Int) (w : World) (h1 : (k == 1) = false) (h2 : (k == 2) = false) (h3 : (k == 3) = false) : Calls Tryd.prog 106 #[.int .i64 k, .int .i64 x] w fun e w' => e = .returned (.int .i64 (0)) ∧ w = w' := by
  go_enter Tryd.func106, Tryd.ntmps106
  go_wp2_with (go_at_call 88; (with_reducible refine (pwrap_any _ _ _).mono ?_); rintro e _ ⟨rfl, rfl⟩)
  go_ret
  exact ⟨rfl, rfl⟩
theorem pnot_any (k x : Int) (w : World) : Calls Tryd.prog 106 #[.int .i64 k, .int .i64 x] w fun e w' => e = .returned (.int .i64 (notK k x)) ∧ w = w' := by
  by_cases h1 : k = 1
  · subst h1; exact pnot_1 x w
  · by_cases h2 : k = 2
    · subst h2; exact pnot_2 x w
    · by_cases h3 : k = 3
      · subst h3; exact pnot_3 x w
      · rw [show notK k x = 0 by simp [notK, h1, h2, h3]]
        exact pnot_x k x w (by simpa using h1) (by simpa using h2) (by simpa using h3)
theorem rnot_1 (x : Int) (w : World) : Calls Tryd.prog 77 #[.int .i64 1, .int .i64 x] w fun e w' => e = .returned (.int .i64 (wrap64 (1 - x))) ∧ w = w' := by
  go_enter Tryd.func77, Tryd.ntmps77
  go_wp2_with (go_at_call 26; (with_reducible refine (rwrap_any _ _ _).mono ?_); rintro e _ ⟨rfl, rfl⟩)
  go_ret
  exact ⟨rfl, rfl⟩
theorem rnot_2 (x : Int) (w : World) : Calls Tryd.prog 77 #[.int .i64 2, .int .i64 x] w fun e w' => e = .returned (.int .i64 (wrapK 2 (bits .xor .i64 (-1) x))) ∧ w = w' := by
  go_enter Tryd.func77, Tryd.ntmps77
  go_wp2_with (go_at_call 26; (with_reducible refine (rwrap_any _ _ _).mono ?_); rintro e _ ⟨rfl, rfl⟩)
  go_ret
  exact ⟨rfl, rfl⟩
theorem rnot_3 (x : Int) (w : World) : Calls Tryd.prog 77 #[.int .i64 3, .int .i64 x] w fun e w' => e = .returned (.int .i64 (wrapK 3 (bits .xor .i64 (-1) x))) ∧ w = w' := by
  go_enter Tryd.func77, Tryd.ntmps77
  go_wp2_with (go_at_call 26; (with_reducible refine (rwrap_any _ _ _).mono ?_); rintro e _ ⟨rfl, rfl⟩)
  go_ret
  exact ⟨rfl, rfl⟩
theorem rnot_x (k x : Int) (w : World) (h1 : (k == 1) = false) (h2 : (k == 2) = false) (h3 : (k == 3) = false) : Calls Tryd.prog 77 #[.int .i64 k, .int .i64 x] w fun e w' => e = .returned (.int .i64 (0)) ∧ w = w' := by
  go_enter Tryd.func77, Tryd.ntmps77
  go_wp2_with (go_at_call 26; (with_reducible refine (rwrap_any _ _ _).mono ?_); rintro e _ ⟨rfl, rfl⟩)
  go_ret
  exact ⟨rfl, rfl⟩
theorem rnot_any (k x : Int) (w : World) : Calls Tryd.prog 77 #[.int .i64 k, .int .i64 x] w fun e w' => e = .returned (.int .i64 (notK k x)) ∧ w = w' := by
  by_cases h1 : k = 1
  · subst h1; exact rnot_1 x w
  · by_cases h2 : k = 2
    · subst h2; exact rnot_2 x w
    · by_cases h3 : k = 3
      · subst h3; exact rnot_3 x w
      · rw [show notK k x = 0 by simp [notK, h1, h2, h3]]
        exact rnot_x k x w (by simpa using h1) (by simpa using h2) (by simpa using h3)
end Go.Proofs.YtngobbbinacomaaDoor.c11
