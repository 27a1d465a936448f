/- Chapter 10: InstrSizes. -/
import Derived.Test.YtpojffgppejhcaaX10
namespace Go.Proofs.Ytpojffgppejhcaa
open Go.RowKit
set_option linter.unusedVariables false
set_option linter.unusedSimpArgs false

/-- A row of bytes of its own, as a slice. -/
theorem came_owned {w : World} {base : Nat} {v : Value} {n : Nat} {l : List Int} (ho : w.ownsRow base 5 1 v n (u8s l)) :
    l.length = n ∧ ∃ A cap, v = .slice A n cap ∧ Came w A n cap (fun j => .int .u8 (l.getD j 0)) ∧ (∀ x, A = some x → base ≤ x.block ∧ x.block < w.heap.size ∧ ∀ j u, (u8s l)[j]? = some u → w.cell? (x.add j) = some u) ∧ (A = none → n = 0) := by
  have hl : l.length = n := by have := ho.1; rw [u8s_length] at this; omega
  refine ⟨hl, ?_⟩
  have hc := fun g (h : v.ownBlock = some g) => ho.cells h
  have hlt := fun g (h : v.ownBlock = some g) => ho.lt g h
  obtain ⟨A, cap, rfl, h1, h2, h3⟩ := owns_cells ho
  refine ⟨A, cap, rfl, ⟨h1, h2, fun h => ?_⟩, ?_, ?_⟩
  · obtain ⟨b, hb, _, hlt', hcell⟩ := h3 h
    refine ⟨b, 0, hb, hlt', fun i hi => ?_⟩
    rw [Nat.zero_add]
    refine hcell i _ ?_
    have hi' : i < l.length := by omega
    simp [u8s, List.getD_eq_getElem?_getD, hi']
  · rintro x rfl
    have h4 := hlt x.block rfl
    refine ⟨h4.1, h4.2, fun j u hj => ?_⟩
    have hp : 0 < n := by have := (List.getElem?_eq_some_iff.1 hj).1; rw [u8s_length] at this; omega
    obtain ⟨b, hb, _⟩ := h3 hp
    obtain rfl : x = ⟨b, 0, none⟩ := by simpa using hb
    exact hc b rfl j u hj
  · rintro rfl
    rcases Nat.eq_zero_or_pos n with h | h
    · exact h
    · obtain ⟨b, hb, _⟩ := h3 h
      cases hb

theorem encB_bytes (s a N : Int) : ∀ y ∈ encB s a N, 0 ≤ y ∧ y < 256 := by
  intro y hy
  simp only [encB, List.mem_cons, List.mem_append] at hy
  rcases hy with rfl | hy | hy
  · omega
  · split at hy
    · simp at hy; omega
    · simp at hy
  · split at hy
    · simp only [nb8, List.mem_map] at hy
      obtain ⟨k, _, rfl⟩ := hy
      omega
    · simp at hy

theorem getD_bytes (l : List Int) (h : ∀ y ∈ l, 0 ≤ y ∧ y < 256) (i : Nat) : 0 ≤ l.getD i 0 ∧ l.getD i 0 < 256 := by
  rw [List.getD_eq_getElem?_getD]
  cases hq : l[i]? with
  | none => simp
  | some y => exact h y (List.mem_of_getElem? hq)

/-- Is s one of the first k of the table's signs? -/
def tabA : Array Value := #[.int .i64 2, .int .i64 3, .int .i64 4, .int .i64 5, .int .i64 6, .int .i64 18, .int .i64 19, .int .i64 20, .int .i64 23, .int .i64 24, .int .i64 25, .int .i64 27]
def tabN : Nat → Int
  | 0 => 2
  | 1 => 3
  | 2 => 4
  | 3 => 5
  | 4 => 6
  | 5 => 18
  | 6 => 19
  | 7 => 20
  | 8 => 23
  | 9 => 24
  | 10 => 25
  | 11 => 27
  | _ => 0
def oneK (s : Int) : Nat → Bool
  | 0 => false
  | k + 1 => oneK s k || (tabN k == s)

theorem tab_at (k : Nat) (hk : k < 12) : (#[.int .i64 2, .int .i64 3, .int .i64 4, .int .i64 5, .int .i64 6, .int .i64 18, .int .i64 19, .int .i64 20, .int .i64 23, .int .i64 24, .int .i64 25, .int .i64 27] : Array Value)[k]? = some (.int .i64 (tabN k)) := by
  match k, hk with
  | 0, _ => rfl
  | 1, _ => rfl
  | 2, _ => rfl
  | 3, _ => rfl
  | 4, _ => rfl
  | 5, _ => rfl
  | 6, _ => rfl
  | 7, _ => rfl
  | 8, _ => rfl
  | 9, _ => rfl
  | 10, _ => rfl
  | 11, _ => rfl
  | n + 12, h => exact absurd h (by omega)

theorem oneK_is (s : Int) : (bearsN s = 1 → oneK s 12 = true) ∧ (bearsN s ≠ 1 → oneK s 12 = false) := by
  unfold bearsN
  simp only [oneK, tabN, Bool.false_or, Bool.or_eq_true, Bool.or_eq_false_iff, beq_iff_eq, beq_eq_false_iff_ne]
  constructor
  · intro h
    split at h
    · omega
    · split at h
      · omega
      · omega
  · intro h
    split at h
    · omega
    · split at h
      · omega
      · omega

set_option maxHeartbeats 16000000 in
theorem sizes_bare (a0 a1 N s a : Int) (w : World) (hN : I64 N) (hs0 : 0 ≤ s) (hs : s < 30) (ha0 : 0 ≤ a) (ha : a < 256) (h1 : ∀ u, Calls Try.prog 16 #[.int .i64 a0, .int .i64 30] u fun e w' => e = .returned (.int .i64 s) ∧ u = w')
    (h2 : ∀ u, Calls Try.prog 16 #[.int .i64 a1, .int .i64 256] u fun e w' => e = .returned (.int .i64 a) ∧ u = w') (hb : bearsN s = 0) (ho : oneK s 12 = false) (hne : (s == 1) = false) :
    Calls Try.prog 8 #[.int .i64 a0, .int .i64 a1, .int .i64 N] w fun e w' => e = .returned (.bool true) ∧ Below w.heap.size w w' := by
  have H1 := Lib.hid h1
  have H2 := Lib.hid h2
  have HO := Lib.hid ho
  have hr := rd_enc ([9] ++ encB s a N) 1 s a N [] (by simp) (by omega) (by omega) ha0 ha hN
  have hlen : ([9] ++ encB s a N).length = 2 := by have := encB_length s a N; simp; omega
  have hbs : ∀ i, 0 ≤ ([9] ++ encB s a N).getD i 0 ∧ ([9] ++ encB s a N).getD i 0 < 256 := getD_bytes _ (fun y hy => by
    simp only [List.mem_append, List.mem_singleton] at hy
    rcases hy with rfl | hy
    · omega
    · exact encB_bytes _ _ _ y hy)
  have CB := Lib.hid (fun (W : World) (g : Nat) (hg : g < W.heap.size) (hc : W.cell? ⟨g, 0, none⟩ = some (.int .u8 9)) => bytes_any (some ⟨g, 0, none⟩) 1 1 [9] 77 99 s a N W rfl (by omega) (fun x hx => by
    obtain rfl : x = ⟨g, 0, none⟩ := by simpa using hx.symm
    exact ⟨hg, one_cell hc⟩) (fun h => by cases h))
  have hel : 1 + (encB s a N).length = 2 := by rw [← hlen]; simp; omega
  rw [hel] at CB
  rw [hlen] at hr
  generalize [9] ++ encB s a N = l at *
  rw [hb] at hr
  simp only [show ¬ (s = 1) by simpa using hne, if_false, if_true, show ((1 : Nat) : Int) = 1 from rfl, show ¬ (0 : Int) < 0 by omega, show (0 : Int) < 1 by omega] at hr
  have CR := Lib.hid (fun (W : World) (A : Option Addr) (cap : Nat) (c : Came W A 2 cap fun j => .int .u8 (l.getD j 0)) => read_any A 2 cap (fun j => l.getD j 0) 1 W c (by omega) (fun i _ => hbs i))
  rw [hr] at CR
  simp only [rdV, opT] at CR
  clear h1 h2 ho hr hlen hbs hel hb hN
  go_enter Try.func8, Try.ntmps8
  go_wp2_with fail
  refine (known_any _).mono ?_
  rintro e u1 ⟨rfl, hb1⟩
  have HB1 := Lib.hid hb1
  clear hb1
  go_wp2_with fail
  refine (H1.out _).mono ?_
  rintro e _ ⟨rfl, rfl⟩
  go_wp2_with fail
  refine (H2.out _).mono ?_
  rintro e _ ⟨rfl, rfl⟩
  go_wp2_with fail
  refine (CB.out _ _ (by simp) (by go_simp)).mono ?_
  rintro e u2 ⟨⟨v, rfl, hown⟩, hb2⟩
  obtain ⟨_, A, cap, rfl, hcame, _, _⟩ := came_owned hown
  have HB2 := Lib.hid ((HB1.out.alloc HB1.out.size _).trans (hb2.mono (by have := HB1.out.size; simp; omega)))
  have HCA := Lib.hid hcame
  clear hown hb2 hcame HB1 CB
  go_wp2_with fail
  refine (CR.out _ _ _ HCA.out).mono ?_
  rintro e u3 ⟨rfl, hb3⟩
  have HB3 := Lib.hid (HB2.out.trans (hb3.mono HB2.out.size))
  clear hb3 HB2 CR HCA
  go_wp2_with fail
  have tq : ∀ k, k < 12 → ((u3.alloc (.cells #[.int .i64 1, .int .i64 2, .int .i64 s, .int .i64 0, .int .i64 0] 25)).alloc (.cells #[.int .i64 2, .int .i64 3, .int .i64 4, .int .i64 5, .int .i64 6, .int .i64 18, .int .i64 19, .int .i64 20, .int .i64 23, .int .i64 24, .int .i64 25, .int .i64 27] 3)).cell? ⟨u3.heap.size + 1, k, none⟩ = some (.int .i64 (tabN k)) := fun k hk => by
    rw [World.cell?_alloc_at _ _ _ _ (by simp)]
    exact tab_at k hk
  have TQ := Lib.hid tq
  clear tq
  go_loop [12, 14] (fun o i => ∃ k : Nat, k ≤ 12 ∧ i = .int .i64 k ∧ o = .bool (oneK s k)) (fun _ i => 12 - (intOf i).toNat)
  case atStart => exact ⟨0, by omega, rfl, rfl⟩
  case round =>
    obtain ⟨k, hk, rfl, rfl⟩ := hrel
    by_cases hlt : k < 12
    · have hlt' : (k : Int) < 12 := by omega
      have hc := TQ.out k hlt
      have hstep : oneK s (k + 1) = (oneK s k || (tabN k == s)) := rfl
      have HS := Lib.hid hstep
      clear hstep
      cases ho1 : oneK s k
      · go_wp2
        all_goals (go_round; (case rel => exact ⟨k + 1, by omega, by go_num, by rw [HS.out, ho1]; simp_all⟩); (case measure => simp [intOf]; omega))
      · go_wp2
        all_goals (go_round; (case rel => exact ⟨k + 1, by omega, by go_num, by rw [HS.out, ho1]; simp_all⟩); (case measure => simp [intOf]; omega))
    · have : k = 12 := by omega
      subst this
      rw [HO.out]
      clear hlt
      have hge : ¬ ((12 : Nat) : Int) < 12 := by omega
      go_wp2
      all_goals (go_ret; exact ⟨by first | rfl | (simp_all; done) | (simp_all; omega), (HB3.out.alloc HB3.out.size _).alloc (by have := HB3.out.size; simp; omega) _⟩)

set_option maxHeartbeats 16000000 in
theorem sizes_one (a0 a1 N s a : Int) (w : World) (hN : I64 N) (hs0 : 0 ≤ s) (hs : s < 30) (ha0 : 0 ≤ a) (ha : a < 256) (h1 : ∀ u, Calls Try.prog 16 #[.int .i64 a0, .int .i64 30] u fun e w' => e = .returned (.int .i64 s) ∧ u = w')
    (h2 : ∀ u, Calls Try.prog 16 #[.int .i64 a1, .int .i64 256] u fun e w' => e = .returned (.int .i64 a) ∧ u = w') (hb : bearsN s = 1) (ho : oneK s 12 = true) (hne : (s == 1) = false) :
    Calls Try.prog 8 #[.int .i64 a0, .int .i64 a1, .int .i64 N] w fun e w' => e = .returned (.bool true) ∧ Below w.heap.size w w' := by
  have H1 := Lib.hid h1
  have H2 := Lib.hid h2
  have HO := Lib.hid ho
  have hr := rd_enc ([9] ++ encB s a N) 1 s a N [] (by simp) (by omega) (by omega) ha0 ha hN
  have hlen : ([9] ++ encB s a N).length = 3 := by have := encB_length s a N; simp; omega
  have hbs : ∀ i, 0 ≤ ([9] ++ encB s a N).getD i 0 ∧ ([9] ++ encB s a N).getD i 0 < 256 := getD_bytes _ (fun y hy => by
    simp only [List.mem_append, List.mem_singleton] at hy
    rcases hy with rfl | hy
    · omega
    · exact encB_bytes _ _ _ y hy)
  have CB := Lib.hid (fun (W : World) (g : Nat) (hg : g < W.heap.size) (hc : W.cell? ⟨g, 0, none⟩ = some (.int .u8 9)) => bytes_any (some ⟨g, 0, none⟩) 1 1 [9] 77 99 s a N W rfl (by omega) (fun x hx => by
    obtain rfl : x = ⟨g, 0, none⟩ := by simpa using hx.symm
    exact ⟨hg, one_cell hc⟩) (fun h => by cases h))
  have hel : 1 + (encB s a N).length = 3 := by rw [← hlen]; simp; omega
  rw [hel] at CB
  rw [hlen] at hr
  generalize [9] ++ encB s a N = l at *
  rw [hb] at hr
  simp only [show ¬ (s = 1) by simpa using hne, if_false, if_true, show ((1 : Nat) : Int) = 1 from rfl, show ¬ (0 : Int) < 0 by omega, show (0 : Int) < 1 by omega] at hr
  have CR := Lib.hid (fun (W : World) (A : Option Addr) (cap : Nat) (c : Came W A 3 cap fun j => .int .u8 (l.getD j 0)) => read_any A 3 cap (fun j => l.getD j 0) 1 W c (by omega) (fun i _ => hbs i))
  rw [hr] at CR
  simp only [rdV, opT] at CR
  clear h1 h2 ho hr hlen hbs hel hb hN
  go_enter Try.func8, Try.ntmps8
  go_wp2_with fail
  refine (known_any _).mono ?_
  rintro e u1 ⟨rfl, hb1⟩
  have HB1 := Lib.hid hb1
  clear hb1
  go_wp2_with fail
  refine (H1.out _).mono ?_
  rintro e _ ⟨rfl, rfl⟩
  go_wp2_with fail
  refine (H2.out _).mono ?_
  rintro e _ ⟨rfl, rfl⟩
  go_wp2_with fail
  refine (CB.out _ _ (by simp) (by go_simp)).mono ?_
  rintro e u2 ⟨⟨v, rfl, hown⟩, hb2⟩
  obtain ⟨_, A, cap, rfl, hcame, _, _⟩ := came_owned hown
  have HB2 := Lib.hid ((HB1.out.alloc HB1.out.size _).trans (hb2.mono (by have := HB1.out.size; simp; omega)))
  have HCA := Lib.hid hcame
  clear hown hb2 hcame HB1 CB
  go_wp2_with fail
  refine (CR.out _ _ _ HCA.out).mono ?_
  rintro e u3 ⟨rfl, hb3⟩
  have HB3 := Lib.hid (HB2.out.trans (hb3.mono HB2.out.size))
  clear hb3 HB2 CR HCA
  go_wp2_with fail
  have tq : ∀ k, k < 12 → ((u3.alloc (.cells #[.int .i64 1, .int .i64 3, .int .i64 s, .int .i64 a, .int .i64 0] 25)).alloc (.cells #[.int .i64 2, .int .i64 3, .int .i64 4, .int .i64 5, .int .i64 6, .int .i64 18, .int .i64 19, .int .i64 20, .int .i64 23, .int .i64 24, .int .i64 25, .int .i64 27] 3)).cell? ⟨u3.heap.size + 1, k, none⟩ = some (.int .i64 (tabN k)) := fun k hk => by
    rw [World.cell?_alloc_at _ _ _ _ (by simp)]
    exact tab_at k hk
  have TQ := Lib.hid tq
  clear tq
  go_loop [12, 14] (fun o i => ∃ k : Nat, k ≤ 12 ∧ i = .int .i64 k ∧ o = .bool (oneK s k)) (fun _ i => 12 - (intOf i).toNat)
  case atStart => exact ⟨0, by omega, rfl, rfl⟩
  case round =>
    obtain ⟨k, hk, rfl, rfl⟩ := hrel
    by_cases hlt : k < 12
    · have hlt' : (k : Int) < 12 := by omega
      have hc := TQ.out k hlt
      have hstep : oneK s (k + 1) = (oneK s k || (tabN k == s)) := rfl
      have HS := Lib.hid hstep
      clear hstep
      cases ho1 : oneK s k
      · go_wp2
        all_goals (go_round; (case rel => exact ⟨k + 1, by omega, by go_num, by rw [HS.out, ho1]; simp_all⟩); (case measure => simp [intOf]; omega))
      · go_wp2
        all_goals (go_round; (case rel => exact ⟨k + 1, by omega, by go_num, by rw [HS.out, ho1]; simp_all⟩); (case measure => simp [intOf]; omega))
    · have : k = 12 := by omega
      subst this
      rw [HO.out]
      clear hlt
      have hge : ¬ ((12 : Nat) : Int) < 12 := by omega
      go_wp2
      all_goals (go_ret; exact ⟨by first | rfl | (simp_all; done) | (simp_all; omega), (HB3.out.alloc HB3.out.size _).alloc (by have := HB3.out.size; simp; omega) _⟩)

set_option maxHeartbeats 16000000 in
theorem sizes_push (a0 a1 N a : Int) (w : World) (hN : I64 N) (ha0 : 0 ≤ a) (ha : a < 256) (h1 : ∀ u, Calls Try.prog 16 #[.int .i64 a0, .int .i64 30] u fun e w' => e = .returned (.int .i64 1) ∧ u = w')
    (h2 : ∀ u, Calls Try.prog 16 #[.int .i64 a1, .int .i64 256] u fun e w' => e = .returned (.int .i64 a) ∧ u = w') (hb : bearsN 1 = 9) (ho : oneK 1 12 = false)  :
    Calls Try.prog 8 #[.int .i64 a0, .int .i64 a1, .int .i64 N] w fun e w' => e = .returned (.bool true) ∧ Below w.heap.size w w' := by
  have H1 := Lib.hid h1
  have H2 := Lib.hid h2
  have HO := Lib.hid ho
  have hr := rd_enc ([9] ++ encB 1 a N) 1 1 a N [] (by simp) (by omega) (by omega) ha0 ha hN
  have hlen : ([9] ++ encB 1 a N).length = 11 := by have := encB_length 1 a N; simp; omega
  have hbs : ∀ i, 0 ≤ ([9] ++ encB 1 a N).getD i 0 ∧ ([9] ++ encB 1 a N).getD i 0 < 256 := getD_bytes _ (fun y hy => by
    simp only [List.mem_append, List.mem_singleton] at hy
    rcases hy with rfl | hy
    · omega
    · exact encB_bytes _ _ _ y hy)
  have CB := Lib.hid (fun (W : World) (g : Nat) (hg : g < W.heap.size) (hc : W.cell? ⟨g, 0, none⟩ = some (.int .u8 9)) => bytes_any (some ⟨g, 0, none⟩) 1 1 [9] 77 99 1 a N W rfl (by omega) (fun x hx => by
    obtain rfl : x = ⟨g, 0, none⟩ := by simpa using hx.symm
    exact ⟨hg, one_cell hc⟩) (fun h => by cases h))
  have hel : 1 + (encB 1 a N).length = 11 := by rw [← hlen]; simp; omega
  rw [hel] at CB
  rw [hlen] at hr
  generalize [9] ++ encB 1 a N = l at *
  rw [hb] at hr
  simp only [if_false, if_true, show ((1 : Nat) : Int) = 1 from rfl, show ¬ (0 : Int) < 0 by omega, show (0 : Int) < 9 by omega] at hr
  have CR := Lib.hid (fun (W : World) (A : Option Addr) (cap : Nat) (c : Came W A 11 cap fun j => .int .u8 (l.getD j 0)) => read_any A 11 cap (fun j => l.getD j 0) 1 W c (by omega) (fun i _ => hbs i))
  rw [hr] at CR
  simp only [rdV, opT] at CR
  clear h1 h2 ho hr hlen hbs hel hb hN
  go_enter Try.func8, Try.ntmps8
  go_wp2_with fail
  refine (known_any _).mono ?_
  rintro e u1 ⟨rfl, hb1⟩
  have HB1 := Lib.hid hb1
  clear hb1
  go_wp2_with fail
  refine (H1.out _).mono ?_
  rintro e _ ⟨rfl, rfl⟩
  go_wp2_with fail
  refine (H2.out _).mono ?_
  rintro e _ ⟨rfl, rfl⟩
  go_wp2_with fail
  refine (CB.out _ _ (by simp) (by go_simp)).mono ?_
  rintro e u2 ⟨⟨v, rfl, hown⟩, hb2⟩
  obtain ⟨_, A, cap, rfl, hcame, _, _⟩ := came_owned hown
  have HB2 := Lib.hid ((HB1.out.alloc HB1.out.size _).trans (hb2.mono (by have := HB1.out.size; simp; omega)))
  have HCA := Lib.hid hcame
  clear hown hb2 hcame HB1 CB
  go_wp2_with fail
  refine (CR.out _ _ _ HCA.out).mono ?_
  rintro e u3 ⟨rfl, hb3⟩
  have HB3 := Lib.hid (HB2.out.trans (hb3.mono HB2.out.size))
  clear hb3 HB2 CR HCA
  go_wp2_with fail
  have tq : ∀ k, k < 12 → ((u3.alloc (.cells #[.int .i64 1, .int .i64 11, .int .i64 1, .int .i64 a, .int .i64 N] 25)).alloc (.cells #[.int .i64 2, .int .i64 3, .int .i64 4, .int .i64 5, .int .i64 6, .int .i64 18, .int .i64 19, .int .i64 20, .int .i64 23, .int .i64 24, .int .i64 25, .int .i64 27] 3)).cell? ⟨u3.heap.size + 1, k, none⟩ = some (.int .i64 (tabN k)) := fun k hk => by
    rw [World.cell?_alloc_at _ _ _ _ (by simp)]
    exact tab_at k hk
  have TQ := Lib.hid tq
  clear tq
  go_loop [12, 14] (fun o i => ∃ k : Nat, k ≤ 12 ∧ i = .int .i64 k ∧ o = .bool (oneK 1 k)) (fun _ i => 12 - (intOf i).toNat)
  case atStart => exact ⟨0, by omega, rfl, rfl⟩
  case round =>
    obtain ⟨k, hk, rfl, rfl⟩ := hrel
    by_cases hlt : k < 12
    · have hlt' : (k : Int) < 12 := by omega
      have hc := TQ.out k hlt
      have hstep : oneK 1 (k + 1) = (oneK 1 k || (tabN k == 1)) := rfl
      have HS := Lib.hid hstep
      clear hstep
      cases ho1 : oneK 1 k
      · go_wp2
        all_goals (go_round; (case rel => exact ⟨k + 1, by omega, by go_num, by rw [HS.out, ho1]; simp_all⟩); (case measure => simp [intOf]; omega))
      · go_wp2
        all_goals (go_round; (case rel => exact ⟨k + 1, by omega, by go_num, by rw [HS.out, ho1]; simp_all⟩); (case measure => simp [intOf]; omega))
    · have : k = 12 := by omega
      subst this
      rw [HO.out]
      clear hlt
      have hge : ¬ ((12 : Nat) : Int) < 12 := by omega
      go_wp2
      all_goals (go_ret; exact ⟨by first | rfl | (simp_all; done) | (simp_all; omega), (HB3.out.alloc HB3.out.size _).alloc (by have := HB3.out.size; simp; omega) _⟩)

theorem instrSizes_walk (a0 a1 a2 : Int) (w : World) (w0 : I64 a0) (w1 : I64 a1) (w2 : I64 a2) :
    Calls Try.prog 8 #[.int .i64 a0, .int .i64 a1, .int .i64 a2] w fun e w' => e = .returned (.bool true) ∧ Below w.heap.size w w' := by
  have h1 := fun u => within_any a0 30 (by decide) (by decide) u
  have h2 := fun u => within_any a1 256 (by decide) (by decide) u
  have s0 : 0 ≤ a0 % 30 := by omega
  have s1 : a0 % 30 < 30 := by omega
  have t0 : 0 ≤ a1 % 256 := by omega
  have t1 : a1 % 256 < 256 := by omega
  generalize a0 % 30 = s at *
  generalize a1 % 256 = a at *
  obtain ⟨o1, o2⟩ := oneK_is s
  rcases bearsN_ways s with ⟨h3, h4⟩ | ⟨h3, h4⟩ | ⟨h3, h4⟩
  · exact sizes_bare a0 a1 a2 s a w w2 s0 s1 t0 t1 h1 h2 h3 (o2 (by omega)) (by simpa using h4)
  · exact sizes_one a0 a1 a2 s a w w2 s0 s1 t0 t1 h1 h2 h3 (o1 h3) (by simpa using h4)
  · subst h4
    exact sizes_push a0 a1 a2 a w w2 t0 t1 h1 h2 h3 (o2 (by omega))
end Go.Proofs.Ytpojffgppejhcaa
