/- Chapter 10: InstrCuts. -/
import Derived.Test.YtpojffgppejhcaaY10
namespace Go.Proofs.Ytpojffgppejhcaa
open Go.RowKit
set_option linter.unusedVariables false
set_option linter.unusedSimpArgs false

theorem Came.shorter {w : World} {A : Option Addr} {len cap : Nat} {V : Nat → Value} (c : Came w A len cap V) {m : Nat} (h : m ≤ len) : Came w A m cap V :=
  ⟨by have := c.le; omega, c.max, fun h0 => by
    obtain ⟨b, off, h1, h2, h3⟩ := c.at_ (by omega)
    exact ⟨b, off, h1, h2, fun i hi => h3 i (by omega)⟩⟩

theorem made_own (W : World) (T : TypeId) (base n : Nat) (hb : base ≤ W.heap.size) (hn : n = W.heap.size) : (W.alloc (.cells #[] T)).ownsRow base T 1 (.slice (some ⟨n, 0, none⟩) 0 0) 0 [] := by
  subst hn
  exact World.ownsRow_made W #[] 0 hb (Nat.zero_le _) rfl

theorem own_plain {w : World} {base : Nat} {e : TypeId} {v : Value} {m : Nat} {l : List Int} {y : Int} (h : w.ownsRow base e 1 v (0 + m + 1) ([] ++ u8s l ++ u8s [y])) : w.ownsRow base e 1 v (m + 1) (u8s (l ++ [y])) := by
  rw [u8s_app]
  simpa using h

set_option maxHeartbeats 16000000 in
theorem cuts_core (a0 N a2 s x k wt : Int) (nb : Nat) (rA rN : Int) (w : World) (hN : I64 N) (hs0 : 0 ≤ s) (hs : s < 30) (h1 : ∀ u, Calls Try.prog 16 #[.int .i64 a0, .int .i64 30] u fun e w' => e = .returned (.int .i64 s) ∧ u = w')
    (h2 : ∀ u, Calls Try.prog 16 #[.int .i64 a2, .int .i64 226] u fun e w' => e = .returned (.int .i64 k) ∧ u = w') (hk0 : 0 ≤ k) (hk : k < 226)
    (hb : bearsN s = nb) (hnb : nb ≤ 9) (hwt : wt = if nb = 0 then 12 else 8) (hA : (if 0 < bearsN s then (1 : Int) else 0) = rA) (hNN : (if s = 1 then N else 0) = rN) :
    Calls Try.prog 7 #[.int .i64 a0, .int .i64 N, .int .i64 a2] w fun e w' => e = .returned (.bool true) ∧ Below w.heap.size w w' := by
  obtain ⟨i0, hi, hz0, hz1, hz2⟩ := info_parts byteInfo
  have t22 := byteRow
  have H1 := Lib.hid h1
  have H2 := Lib.hid h2
  have hel : (encB s 1 N).length = nb + 1 := by have := encB_length s 1 N; omega
  have hbs : ∀ i, 0 ≤ (encB s 1 N).getD i 0 ∧ (encB s 1 N).getD i 0 < 256 := getD_bytes _ (fun y hy => encB_bytes _ _ _ y hy)
  have hbs2 : ∀ i, 0 ≤ (encB s 1 N ++ [30 + k]).getD i 0 ∧ (encB s 1 N ++ [30 + k]).getD i 0 < 256 := getD_bytes _ (fun y hy => by
    simp only [List.mem_append, List.mem_singleton] at hy
    rcases hy with hy | rfl
    · exact encB_bytes _ _ _ y hy
    · omega)
  have hr := rd_enc (encB s 1 N) 0 s 1 N [] (by simp) hs0 hs (by omega) (by omega) hN
  rw [hel, hb] at hr
  have hr' : rd (fun j => (encB s 1 N).getD j 0) (nb + 1) 0 = ((0, 1 + (nb : Int), s, rA, rN), 0) := by
    rw [← hA, ← hNN, hb, show (1 : Int) + nb = ((0 : Nat) : Int) + 1 + nb by omega]
    exact hr
  have hrl := rd_enc (encB s 1 N ++ [30 + k]) 0 s 1 N [30 + k] (by simp) hs0 hs (by omega) (by omega) hN
  have hel2 : (encB s 1 N ++ [30 + k]).length = nb + 1 + 1 := by simp [hel]
  have hz2l : (encB s 1 N ++ [30 + k]).getD (nb + 1) 0 = 30 + k := by
    rw [List.getD_eq_getElem?_getD, List.getElem?_append_right (by omega), hel]
    simp
  have hz00 : (encB s 1 N).getD 0 0 = s := by
    simp [encB]
    omega
  have hrun : runL (fun j => (encB s 1 N ++ [30 + k]).getD j 0) (nb + 1 + 1) (nb + 1 + 1 + 1) 0 [] = ([], 10) := by
    rw [hel2, hb] at hrl
    have hrl' : rd (fun j => (encB s 1 N ++ [30 + k]).getD j 0) (nb + 1 + 1) 0 = _ := hrl
    rw [runL, if_pos (by omega), hrl']
    simp only [if_true]
    have e : ((0 : Nat) : Int) + 1 + (nb : Int) = ((nb + 1 : Nat) : Int) := by omega
    rw [e, runL, if_pos (by omega)]
    have hq : rd (fun j => (encB s 1 N ++ [30 + k]).getD j 0) (nb + 1 + 1) ((nb + 1 : Nat) : Int) = ((0, 0, 0, 0, 0), 10) := by
      have ht : (((nb + 1 : Nat) : Int)).toNat = nb + 1 := by omega
      simp only [rd, ht, hz2l]
      rw [if_neg (by omega), if_pos (by omega)]
    rw [hq]
    rfl
  have hcut : rd (fun j => (encB s 1 N).getD j 0) nb 0 = ((0, 0, 0, 0, 0), wt) := by
    by_cases h0 : nb = 0
    · simp only [rd, h0]
      rw [if_pos (by omega), hwt, if_pos h0]
    · simp only [rd, Int.toNat_zero, hz00, hb]
      rw [if_neg (by omega), if_neg (by omega), if_pos (by omega), hwt, if_neg h0]
  have CB := Lib.hid (fun (W : World) => bytes_any none 0 0 [] 0 0 s 1 N W rfl (by omega) (fun x hx => by cases hx) (fun _ => rfl))
  rw [Nat.zero_add, hel, List.nil_append] at CB
  generalize hl : encB s 1 N = l at *
  have CR := Lib.hid (fun (W : World) (A : Option Addr) (cap : Nat) (c : Came W A (nb + 1) cap fun j => .int .u8 (l.getD j 0)) => read_any A (nb + 1) cap (fun j => l.getD j 0) 0 W c (by omega) (fun i _ => hbs i))
  have CC := Lib.hid (fun (W : World) (A : Option Addr) (cap : Nat) (c : Came W A nb cap fun j => .int .u8 (l.getD j 0)) => read_any A nb cap (fun j => l.getD j 0) 0 W c (by omega) (fun i _ => hbs i))
  have CA := Lib.hid (fun (W : World) (A : Option Addr) (cap : Nat) (c : Came W A (nb + 1 + 1) cap fun j => .int .u8 ((l ++ [30 + k]).getD j 0)) => all_any A (nb + 1 + 1) cap (fun j => (l ++ [30 + k]).getD j 0) W c (by omega) (fun i _ => hbs2 i))
  rw [hr'] at CR
  rw [hcut] at CC
  rw [hrun] at CA
  simp only [rdV, opT] at CR CC
  have HLL := Lib.hid (show (u8s l).length = nb + 1 by rw [u8s_length]; exact hel)
  clear h1 h2 hr hr' hrl hel2 hbs hbs2 hb hN hz2l hz00 hrun hcut hA hNN hl hel hs0 hs
  have hnb' : (nb : Int) ≤ 9 := by omega
  have HWT := Lib.hid hwt
  clear hwt
  go_enter Try.func7, Try.ntmps7
  go_wp2_with fail
  refine (known_any _).mono ?_
  rintro e u1 ⟨rfl, hb1⟩
  have HB1 := Lib.hid hb1
  clear hb1
  go_wp2_with fail
  refine (H1.out _).mono ?_
  rintro e _ ⟨rfl, rfl⟩
  go_wp2_with fail
  refine (CB.out _).mono ?_
  rintro e u2 ⟨⟨v, rfl, hown⟩, hb2⟩
  obtain ⟨_, A, cap, rfl, hcame, hadr, hnil⟩ := came_owned hown
  obtain ⟨ad, rfl⟩ : ∃ ad, A = some ad := by
    cases A with
    | none => have := hnil rfl; omega
    | some ad => exact ⟨ad, rfl⟩
  have hle := hcame.le
  have hmx := hcame.max
  have HB2 := Lib.hid (HB1.out.trans (hb2.mono HB1.out.size))
  have HCA := Lib.hid hcame
  have HAD := Lib.hid (hadr ad rfl)
  clear hown hb2 hcame HB1 CB hadr hnil
  go_wp2_with fail
  refine (CR.out _ _ _ HCA.out).mono ?_
  rintro e u3 ⟨rfl, hb3⟩
  have HCA3 := Lib.hid ((HCA.out.below (Nat.le_refl _) hb3).below (Nat.le_refl _) ((Below.refl _ u3).alloc (Nat.le_refl _) (.cells #[.int .i64 0, .int .i64 (1 + nb), .int .i64 s, .int .i64 rA, .int .i64 rN] 25)))
  have HB3 := Lib.hid (HB2.out.trans (hb3.mono HB2.out.size))
  have HL3 := Lib.hid hb3.size
  have HK3 := Lib.hid (fun j u (h : (u8s l)[j]? = some u) => (hb3.cell (p := ad.add j) (by rw [add_block]; exact HAD.out.2.1)).trans (HAD.out.2.2 j u h))
  clear hb3 HB2 CR
  go_wp2_with fail
  refine (CC.out _ _ _ (HCA3.out.shorter (by omega))).mono ?_
  rintro e u4 ⟨rfl, hb4⟩
  have HB4 := Lib.hid ((HB3.out.alloc HB3.out.size _).trans (hb4.mono (by have := HB3.out.size; simp; omega)))
  have HS4 := Lib.hid (show u3.heap.size + 1 ≤ u4.heap.size by have := hb4.size; simpa using this)
  have HK4 := Lib.hid (fun j u (h : (u8s l)[j]? = some u) => ((hb4.cell (p := ad.add j) (by rw [add_block]; have := HAD.out.2.1; have := HL3.out; simp; omega)).trans (Lib.cell?_alloc_some _ (HK3.out j u h))))
  clear hb4 HB3 CC HCA3 HCA HK3
  have hk8 : (30 + k) % 256 = 30 + k := by omega
  go_wp2_with (first
    | (at_builtin; refine wpList_append_own _ rfl _ _ 22 rfl u4.heap.size 5 i0 _ 1 1 t22 hi hz0 hz1 hz2 rfl (by decide) _ (0 + (nb + 1)) ([] ++ u8s l) rfl (HO5.out.alloc _) ⟨_, 0, none⟩ 1 1 (u8s [30 + k]) rfl rfl (one_cell (by go_simp)) (u8s_one _) (by unfold maxLen; omega) (by omega) (by have hq := HZ5.out; simp at hq; simp; omega) ?_; intro v6 w6 hown hgrow hnil; have HB6 := Lib.hid (grown_below (B := w.heap.size) (HB5.out.alloc HB5.out.size _) (HO5.out.alloc _) hgrow HB4.out.size (by have := HB5.out.size; simp; omega)); have hown' := own_plain hown; obtain ⟨_, A6, cap6, rfl, hc6, _, _⟩ := came_owned hown'; have HC6 := Lib.hid hc6; clear hown hown' hgrow hnil hc6)
    | (at_builtin; refine wpList_append_own _ rfl _ _ 22 rfl u4.heap.size 5 i0 _ 1 1 t22 hi hz0 hz1 hz2 rfl (by decide) _ 0 [] rfl (made_own _ _ _ _ (by simp; done) (by simp; done)) ad (nb + 1) cap (u8s l) rfl (by rw [HLL.out, Nat.mul_one]) (fun j u h => Lib.cell?_alloc_some _ (Lib.cell?_alloc_some _ (HK4.out j u h))) (u8s_one _) (by unfold maxLen; omega) (by omega) (by simp; omega) ?_; intro v5 w5 hown hgrow hnil; have HB5 := Lib.hid (grown_below (B := w.heap.size) ((HB4.out.alloc HB4.out.size _).alloc (by have := HB4.out.size; simp; omega) _) (made_own _ 5 u4.heap.size _ (by simp; done) (by simp; done)) hgrow HB4.out.size (by have := HB4.out.size; simp; omega)); have HO5 := Lib.hid hown; have HZ5 := Lib.hid hgrow.size; clear hown hgrow hnil)
    | (go_at_call 16; (with_reducible refine (H2.out _).mono ?_); rintro e _ ⟨rfl, rfl⟩))
  refine (CA.out _ A6 cap6 HC6.out).mono ?_
  rintro e u7 ⟨⟨B7, n7, rfl, _⟩, hb7⟩
  have HB7 := Lib.hid (HB6.out.trans (hb7.mono HB6.out.size))
  clear hb7
  have hwt := HWT.out
  by_cases h0 : nb = 0
  · rw [if_pos h0] at hwt
    subst h0 hwt
    simp only [List.length_nil]
    go_wp2
    all_goals first | (exfalso; omega) | (go_ret; exact ⟨by first | rfl | (simp_all; done) | (simp_all; omega), HB7.out⟩)
  · rw [if_neg h0] at hwt
    subst hwt
    have hnb1 : ¬ (nb : Int) + 1 = 1 := by omega
    simp only [List.length_nil]
    go_wp2
    all_goals first | (exfalso; omega) | (go_ret; exact ⟨by first | rfl | (simp_all; done) | (simp_all; omega), HB7.out⟩)

theorem instrCuts_walk (a0 a1 a2 : Int) (w : World) (w0 : I64 a0) (w1 : I64 a1) (w2 : I64 a2) :
    Calls Try.prog 7 #[.int .i64 a0, .int .i64 a1, .int .i64 a2] w fun e w' => e = .returned (.bool true) ∧ Below w.heap.size w w' := by
  have h1 := fun u => within_any a0 30 (by decide) (by decide) u
  have h2 := fun u => within_any a2 226 (by decide) (by decide) u
  have hw := bearsN_ways (a0 % 30)
  obtain ⟨nb, hnb⟩ : ∃ nb : Nat, bearsN (a0 % 30) = nb := ⟨(bearsN (a0 % 30)).toNat, by omega⟩
  exact cuts_core a0 a1 a2 (a0 % 30) 0 (a2 % 226) _ nb _ _ w w1 (by omega) (by omega) h1 h2 (by omega) (by omega) hnb (by omega) rfl rfl rfl
end Go.Proofs.Ytpojffgppejhcaa
