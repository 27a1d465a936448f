/- Chapter 10: InstrBack. -/
import Derived.Test.YtpojffgppejhcaaRB10
import Derived.Test.YtpojffgppejhcaaQ10
import Derived.Deep.DeepCutAuto
namespace Go.Proofs.Ytpojffgppejhcaa
open Go.RowKit
set_option linter.unusedVariables false
set_option linter.unusedSimpArgs false
attribute [local go_sem, local simp] setDrewN allocDrewN

/-- Reading ys from its beginning on one comes to L, whatever follows. -/
def Enc (ys : List Int) (L : List (Int × Int × Int × Int × Int)) : Prop :=
  ∀ (rest : List Int) (f : Nat), runL (fun i => (ys ++ rest).getD i 0) (ys ++ rest).length (f + L.length) 0 [] = runL (fun i => (ys ++ rest).getD i 0) (ys ++ rest).length f ys.length L

theorem Enc.nil : Enc [] [] := fun rest f => rfl

theorem Enc.step {ys : List Int} {L : List (Int × Int × Int × Int × Int)} (h : Enc ys L) (s a N : Int) (hs0 : 0 ≤ s) (hs : s < 30) (ha0 : 0 ≤ a) (ha : a < 256) (hN : I64 N) (h1 : bearsN s = 0 → a = 0) (h2 : s ≠ 1 → N = 0) :
    Enc (ys ++ encB s a N) (L ++ [((ys.length : Int), (ys.length : Int) + 1 + bearsN s, s, a, N)]) := fun rest f => by
  have hw := bearsN_ways s
  have hd : (ys ++ encB s a N ++ rest).drop ys.length = encB s a N ++ rest := by rw [List.append_assoc, List.drop_left]
  have hr := rd_enc (ys ++ encB s a N ++ rest) ys.length s a N rest hd hs0 hs ha0 ha hN
  have e1 : (if 0 < bearsN s then a else 0) = a := by
    split
    · rfl
    · exact (h1 (by omega)).symm
  have e2 : (if s = 1 then N else 0) = N := by
    split
    · rfl
    · rename_i hh
      exact (h2 hh).symm
  rw [e1, e2] at hr
  have hlen := encB_length s a N
  have h3 := h (encB s a N ++ rest) (f + 1)
  rw [← List.append_assoc] at h3
  rw [show f + (L ++ [((ys.length : Int), (ys.length : Int) + 1 + bearsN s, s, a, N)]).length = f + 1 + L.length by simp; omega, h3]
  have hlt : (ys.length : Int) < ((ys ++ encB s a N ++ rest).length : Int) := by
    simp only [List.length_append]
    omega
  conv => lhs; unfold runL
  rw [if_pos hlt, hr, if_pos rfl]
  congr 1
  simp only [List.length_append]
  omega

theorem Enc.done {ys : List Int} {L : List (Int × Int × Int × Int × Int)} (h : Enc ys L) (hl : L.length ≤ ys.length) : runL (fun i => ys.getD i 0) ys.length (ys.length + 1) 0 [] = (L, 0) := by
  have h1 := h [] (ys.length + 1 - L.length)
  rw [List.append_nil, show ys.length + 1 - L.length + L.length = ys.length + 1 by omega] at h1
  rw [h1]
  cases ys.length + 1 - L.length with
  | zero => rfl
  | succ f => simp only [runL]; rw [if_neg (by omega)]

theorem own_above {w : World} {base : Nat} {e : TypeId} {size n : Nat} {v : Value} {xs : List Value} (ho : w.ownsRow base e size v n xs) : v.ownBlock ≠ some w.heap.size := fun h => by have := (ho.lt _ h).2; omega

theorem owns_diff {w : World} {base base' : Nat} {e e' : TypeId} {size size' n n' : Nat} {v v' : Value} {xs xs' : List Value} (h : w.ownsRow base e size v n xs) (h' : w.ownsRow base' e' size' v' n' xs') (hT : e ≠ e') : v.ownBlock = none ∨ v.ownBlock ≠ v'.ownBlock := by
  rcases h.2 with ⟨rfl, _⟩ | ⟨g, cap, cur, rfl, _, hh, _⟩
  · exact .inl rfl
  · exact .inr (fun h2 => owns_other h' hh hT (by rw [← h2]; rfl))

theorem opCells_one (o : Int × Int × Int × Int × Int) : ∀ u ∈ opCells o, u.oneCell' = true := fun u hu => rowCells_one [o] u (by simpa [rowCells] using hu)

theorem five_new {w : World} {b : Nat} (a0 a1 a2 a3 a4 : Int) (h0 : w.cell? ⟨b, 0, none⟩ = some (.int .i64 a0)) (h1 : w.cell? ⟨b, 1, none⟩ = some (.int .i64 a1)) (h2 : w.cell? ⟨b, 2, none⟩ = some (.int .i64 a2)) (h3 : w.cell? ⟨b, 3, none⟩ = some (.int .i64 a3)) (h4 : w.cell? ⟨b, 4, none⟩ = some (.int .i64 a4)) :
    ∀ j u, (opCells (a0, a1, a2, a3, a4))[j]? = some u → w.cell? ((⟨b, 0, none⟩ : Addr).add j) = some u := by
  intro j u hj
  rw [Addr.add_lit, Nat.zero_add]
  have hj' : j < 5 := by have := (List.getElem?_eq_some_iff.1 hj).1; simpa [opCells] using this
  rcases (show j = 0 ∨ j = 1 ∨ j = 2 ∨ j = 3 ∨ j = 4 by omega) with rfl | rfl | rfl | rfl | rfl <;> (simp [opCells] at hj; subst hj; assumption)

/-- The string of bytes. -/
def bstr (l : List Int) : ByteArray := l.foldl (fun r n => r.push (UInt8.ofNat n.toNat)) ByteArray.empty

theorem conv_owned {w : World} {base : Nat} {A : Option Addr} {n cap : Nat} {l : List Int} (ho : w.ownsRow base 5 1 (.slice A n cap) n (u8s l)) (hp : 0 < n) (q : Nat) :
    (convert 22 9 (.slice A n cap)).run Try.prog (w.drewN q) = .ok (.string (bstr l)) (w.drewN q) := by
  rw [run_convert_bytes_string _ _ _ 5 _ _ _ byteRow Try.underlying5 Try.underlying9]
  obtain ⟨A', cap', he, _, _, hrow⟩ := owns_cells ho
  obtain ⟨b, hb, _, hlt, hc⟩ := hrow hp
  have hA : A = some ⟨b, 0, none⟩ := by simp at he; rw [he.1]; exact hb
  subst hA
  have hn : (u8s l).length = n := by have := ho.1; omega
  refine run_bytesToString (w.drewN q) ⟨b, 0, none⟩ n cap l ?_
  have hld := run_loadCells_list (P := Try.prog) (w := w.drewN q) ⟨b, 0, none⟩ (u8s l) (fun j u hj => by rw [Addr.add_lit, Nat.zero_add]; exact hc j u hj)
  rw [hn] at hld
  exact hld

/-- What InstrBack's rounds hold. -/
def BackRel (w : World) (len0 : Nat) (vb vw i : Value) (k : Nat) (wr : World) : Prop :=
  ∃ (ys : List Int) (L : List (Int × Int × Int × Int × Int)), i = .int .i64 k ∧ k ≤ len0 ∧ k ≤ 40 ∧ L.length ≤ k ∧ ys.length ≤ 10 * k ∧ L.length ≤ ys.length ∧ Enc ys L ∧ (∀ y ∈ ys, 0 ≤ y ∧ y < 256) ∧
    wr.ownsRow w.heap.size 5 1 vb ys.length (u8s ys) ∧ wr.ownsRow w.heap.size 29 5 vw L.length (rowCells L) ∧ Below w.heap.size w wr

set_option maxRecDepth 100000 in
set_option maxHeartbeats 32000000 in
theorem instrBack_walk (A0 : Option Addr) (len0 cap0 : Nat) (z0 : Nat → Int) (A1 : Option Addr) (len1 cap1 : Nat) (z1 : Nat → Int) (A2 : Option Addr) (len2 cap2 : Nat) (z2 : Nat → Int) (w : World)
    (c0 : Came w A0 len0 cap0 fun j => .int .i64 (z0 j)) (w0 : ∀ j, j < len0 → I64 (z0 j)) (c1 : Came w A1 len1 cap1 fun j => .int .i64 (z1 j)) (w1 : ∀ j, j < len1 → I64 (z1 j)) (c2 : Came w A2 len2 cap2 fun j => .int .i64 (z2 j)) (w2 : ∀ j, j < len2 → I64 (z2 j)) :
    Calls Try.prog 6 #[.slice A0 len0 cap0, .slice A1 len1 cap1, .slice A2 len2 cap2] w fun e w' => e = .returned (.bool true) ∧ Below w.heap.size w w' := by
  obtain ⟨i0, hi, hz0, hz1, hz2⟩ := info_parts byteInfo
  obtain ⟨i1, hi1, hy0, hy1, hy2⟩ := info_parts ropInfo
  have t22 := byteRow
  have t36 := ropRow
  have hm0 : (len0 : Int) ≤ 9223372036854775807 := by have := c0.le; have := c0.max; omega
  have hm1 : (len1 : Int) ≤ 9223372036854775807 := by have := c1.le; have := c1.max; omega
  have hm2 : (len2 : Int) ≤ 9223372036854775807 := by have := c2.le; have := c2.max; omega
  have C0 := Lib.hid c0
  have C1 := Lib.hid c1
  have C2 := Lib.hid c2
  have W2 := Lib.hid w2
  clear c0 w0 c1 w1 c2 w2
  go_enter Try.func6, Try.ntmps6
  go_wp2_with fail
  refine (known_any _).mono ?_
  rintro e u1 ⟨rfl, hb1⟩
  have HB1 := Lib.hid hb1
  clear hb1
  go_wp2_with fail
  go_loopg [7, 8, 9] 40 (fun kk b want i wr => ∃ k : Nat, k + kk = 40 ∧ BackRel w len0 b want i k wr)
  case atStart => exact ⟨0, by omega, [], [], rfl, Nat.zero_le _, Nat.zero_le _, Nat.le_refl _, Nat.le_refl _, Nat.le_refl _, Enc.nil, fun y hy => by simp at hy, World.ownsRow_nil _ _ _ _, World.ownsRow_nil _ _ _ _, HB1.out⟩
  case round =>
    obtain ⟨k, hkk, ys, L, rfl, hk0, hk40, hLk, hyk, hLy, henc, hby, hob, how, hb⟩ := hrel
    obtain ⟨_, A, cap, rfl, hcame, hadr, hnil⟩ := came_owned hob
    have HKK := Lib.hid hkk
    clear hkk
    have HENC := Lib.hid henc
    have HBY := Lib.hid hby
    have HOB := Lib.hid hob
    have HOW := Lib.hid how
    have HB := Lib.hid hb
    have HCA := Lib.hid hcame
    have HAD := Lib.hid hadr
    have HNIL := Lib.hid hnil
    have hyk' : (ys.length : Int) ≤ 400 := by omega
    clear henc hby hob how hcame hadr hnil
    by_cases hlt : k < len0
    · by_cases hlt40 : k < 40
      · have hlt' : (k : Int) < len0 := by omega
        have hlt40' : (k : Int) < 40 := by omega
        obtain ⟨b0, f0, rfl, hb0, hcell0⟩ := C0.out.at_ (by omega)
        have hz := (hb.cell (p := ⟨b0, f0 + k, none⟩) hb0).trans (hcell0 k hlt)
        have hszw := hb.size
        clear hcell0 hb
        go_wp2_with fail
        refine (within_any _ 30 (by decide) (by decide) _).mono ?_
        rintro e _ ⟨rfl, rfl⟩
        have hs0 : 0 ≤ z0 k % 30 := by omega
        have hs1 : z0 k % 30 < 30 := by omega
        generalize z0 k % 30 = s at *
        have hw := bearsN_ways s
        have HWAY := Lib.hid hw
        clear hw hz
        obtain ⟨nb, hnb, hnb9⟩ : ∃ nb : Nat, bearsN s = nb ∧ nb ≤ 9 := ⟨(bearsN s).toNat, by have := HWAY.out; omega, by have := HWAY.out; omega⟩
        have HNB := Lib.hid hnb
        clear hnb
        go_upto_region 9 with fail
        go_cut [41] (fun v41 wx => v41 = .bool (decide ((0 : Int) < nb) && decide ((k : Int) < len1)) ∧ wx = wr.alloc (.cells #[.int .i64 0, .int .i64 0, .int .i64 s, .int .i64 0, .int .i64 0] 25))
        case first =>
          by_cases hp : (0 : Int) < nb
          · go_wp2_with (go_at_call 17; (with_reducible refine (rbears_is HNB.out _).mono ?_); rintro e _ ⟨rfl, rfl⟩)
            all_goals go_meet
            all_goals exact ⟨by simp; omega, rfl⟩
          · go_wp2_with (go_at_call 17; (with_reducible refine (rbears_is HNB.out _).mono ?_); rintro e _ ⟨rfl, rfl⟩)
            all_goals go_meet
            all_goals exact ⟨by simp; omega, rfl⟩
        case rest =>
        obtain ⟨rfl, rfl⟩ := hcut
        obtain ⟨q1, hq1⟩ : ∃ q : Bool, (decide ((0 : Int) < nb) && decide ((k : Int) < len1)) = q := ⟨_, rfl⟩
        rw [hq1]
        have HQ1 := Lib.hid hq1
        clear hq1
        go_upto_if 41 with fail
        go_cut [] (fun wx => ∃ a : Int, Five wx wr.heap.size 0 0 s a 0 ∧ 0 ≤ a ∧ a < 256 ∧ (bearsN s = 0 → a = 0) ∧ Below wr.heap.size wr wx ∧ wx.heap.size = wr.heap.size + 1)
        case first =>
          cases q1 with
          | false =>
            go_wp2
            go_meet
            exact ⟨0, by constructor <;> go_simp, by omega, by omega, fun _ => rfl, (Below.refl _ _).alloc (Nat.le_refl _) _, by simp⟩
          | true =>
            have hq := HQ1.out
            simp only [Bool.and_eq_true, decide_eq_true_eq] at hq
            obtain ⟨hq1, hq2⟩ := hq
            have hk1 : k < len1 := by omega
            obtain ⟨b1, f1, rfl, hbb1, hcell1⟩ := C1.out.at_ (by omega)
            have hz1' := (HB.out.cell (p := ⟨b1, f1 + k, none⟩) hbb1).trans (hcell1 k hk1)
            have hbw : b1 < wr.heap.size := by omega
            clear hcell1
            go_wp2_with (go_at_call 16; (with_reducible refine (within_any _ 256 (by decide) (by decide) _).mono ?_); rintro e _ ⟨rfl, rfl⟩)
            go_meet
            refine ⟨z1 k % 256, by constructor <;> go_simp, by omega, by omega, fun h => ?_, (Below.refl _ _).alloc (Nat.le_refl _) _, by simp⟩
            have := HNB.out
            omega
        case rest =>
        obtain ⟨a, h5, ha0, ha, hab, hbe, hsz⟩ := hcut
        have HAB := Lib.hid hab
        have HBE := Lib.hid hbe
        clear hab hbe
        obtain ⟨p0, p1, p2, p3, p4, f0', f1', f2', f3', f4'⟩ := h5
        generalize hwd : wc = wd at *
        clear hwd
        go_upto_region 11 with fail
        go_cut [56] (fun v56 wx => v56 = .bool (decide (s = 1) && decide ((k : Int) < len2)) ∧ wx = wd)
        case first =>
          by_cases hp : s = 1
          · have hp' : (s == 1) = true := by simpa using hp
            clear hp
            go_wp2
            all_goals go_meet
            all_goals exact ⟨by (try simp at *); (try simp [*]); (try omega), rfl⟩
          · have hp' : (s == 1) = false := by simpa using hp
            go_wp2
            all_goals go_meet
            all_goals exact ⟨by simp [hp], rfl⟩
        case rest =>
        obtain ⟨rfl, rfl⟩ := hcut
        obtain ⟨q2, hq2⟩ : ∃ q : Bool, (decide (s = 1) && decide ((k : Int) < len2)) = q := ⟨_, rfl⟩
        rw [hq2]
        have HQ2 := Lib.hid hq2
        clear hq2
        go_upto_if 56 with fail
        go_cut [] (fun wx => ∃ N : Int, Five wx wr.heap.size 0 0 s a N ∧ I64 N ∧ (s ≠ 1 → N = 0) ∧ Below wr.heap.size wr wx ∧ wx.heap.size = wr.heap.size + 1)
        case first =>
          cases q2 with
          | false =>
            go_wp2
            go_meet
            exact ⟨0, by constructor <;> assumption, ⟨by omega, by omega⟩, fun _ => rfl, HBE.out, hsz⟩
          | true =>
            have hq := HQ2.out
            simp only [Bool.and_eq_true, decide_eq_true_eq] at hq
            obtain ⟨hq1, hq2⟩ := hq
            have hk1 : k < len2 := by omega
            obtain ⟨b1, f1, rfl, hbb1, hcell1⟩ := C2.out.at_ (by omega)
            have hbw : b1 < wr.heap.size := by omega
            have hz1' := (HBE.out.cell (p := ⟨b1, f1 + k, none⟩) hbw).trans ((HB.out.cell (p := ⟨b1, f1 + k, none⟩) hbb1).trans (hcell1 k hk1))
            clear hcell1
            go_wp2
            go_meet
            exact ⟨z2 k, by constructor <;> go_simp, W2.out k hk1, fun h => absurd hq1 h, HBE.out.setCell (Nat.le_refl _) _, by simp [hsz]⟩
        case rest =>
        obtain ⟨N, h5, hN, hNs, hbe, hsz'⟩ := hcut
        have HNS := Lib.hid hNs
        have HNN := Lib.hid hN
        have HBF := Lib.hid hbe
        clear hN hNs hbe HBE p0 p1 p2 p3 p4 f0' f1' f2' f3' f4' HQ1 HQ2 C1 C2 W2 q1 q2
        obtain ⟨p0, p1, p2, p3, p4, f0', f1', f2', f3', f4'⟩ := h5
        go_upto_region 14 with fail
        have e0 : Five (wc.setCell ⟨wr.heap.size, 0, none⟩ (.int .i64 (ys.length : Int))) wr.heap.size ys.length 0 s a N := by constructor <;> go_simp
        have hbg := HBF.out.setCell (p := ⟨wr.heap.size, 0, none⟩) (Nat.le_refl _) (.int .i64 (ys.length : Int))
        have hszg : (wc.setCell ⟨wr.heap.size, 0, none⟩ (.int .i64 (ys.length : Int))).heap.size = wr.heap.size + 1 := by simp [hsz']
        generalize hW : wc.setCell ⟨wr.heap.size, 0, none⟩ (.int .i64 (ys.length : Int)) = W at *
        clear hW p0 p1 p2 p3 p4 f0' f1' f2' f3' f4' hsz' hsz HBF
        obtain ⟨p0, p1, p2, p3, p4, f0', f1', f2', f3', f4'⟩ := e0
        have HBW := Lib.hid hbg
        have HADW := Lib.hid (fun x (hx : A = some x) => (⟨by have := (HAD.out x hx).2.1; omega, fun j u hj => (HBW.out.cell (by rw [add_block]; exact (HAD.out x hx).2.1)).trans ((HAD.out x hx).2.2 j u hj)⟩ : x.block < W.heap.size ∧ ∀ j u, (u8s ys)[j]? = some u → W.cell? (x.add j) = some u))
        clear hbg
        go_cut [11] (fun v wx => wx.ownsRow W.heap.size 5 1 v (ys.length + (encB s a N).length) (u8s (ys ++ encB s a N)) ∧ Below W.heap.size W wx)
        case first =>
          cases A with
          | none =>
            have hy0 := HNIL.out rfl
            obtain rfl : ys = [] := List.length_eq_zero_iff.1 hy0
            go_region_law (first | (go_simp; go_at_call 12; (with_reducible refine (of_any 0 0 s a N _).mono ?_); rintro e u4 ⟨rfl, hb4⟩; have HQ4 := Lib.hid hb4; have HB4 := Lib.hid (show Below W.heap.size W u4 from Below.trans (by repeat (first | (with_reducible exact HB5.out) | (with_reducible exact HB4.out) | (with_reducible exact Below.refl _ _) | (with_reducible refine Below.drew ?_) | (with_reducible refine Below.alloc ?_ (by first | omega | (simp; done) | (simp; omega)) _))) (hb4.mono (by first | omega | (simp; done) | (simp; omega)))); have hz4 := HB4.out.size; clear hb4) | (go_simp; go_at_call 18; (with_reducible refine (rbytes_any _ 0 W.heap.size ([] : List Int) 0 0 s a N _ (by omega) (by first | exact HO5.out | exact owns_keep HO5.out HQ4.out | exact made_own W 5 W.heap.size _ (Nat.le_refl _) (by first | rfl | omega) | exact owns_keep (made_own W 5 W.heap.size _ (Nat.le_refl _) (by first | rfl | omega)) HQ4.out | exact made_own u4 5 W.heap.size _ hz4 (by first | rfl | omega)) (by first | omega | (simp; done) | (simp; omega))).mono ?_); rintro e u6 ⟨⟨v6, rfl, hown⟩, hb6⟩; have HO6 := Lib.hid hown; have HB6 := Lib.hid (Below.trans (b := _) (by repeat (first | (with_reducible exact HB5.out) | (with_reducible exact HB4.out) | (with_reducible exact Below.refl _ _) | (with_reducible refine Below.drew ?_) | (with_reducible refine Below.alloc ?_ (by first | omega | (simp; done) | (simp; omega)) _))) hb6); clear hown hb6))
            all_goals (try go_wp2_with fail)
            all_goals go_meet
            all_goals exact ⟨HO6.out, HB6.out⟩
          | some ad =>
            go_region_law (first | (refine step_append_own rfl _ _ 22 rfl W.heap.size 5 i0 _ 1 1 t22 hi hz0 hz1 hz2 rfl (by decide) _ 0 [] rfl (by first | exact made_own W 5 W.heap.size _ (Nat.le_refl _) (by first | rfl | omega) | exact owns_keep (made_own W 5 W.heap.size _ (Nat.le_refl _) (by first | rfl | omega)) HQ4.out | exact made_own u4 5 W.heap.size _ hz4 (by first | rfl | omega)) ad ys.length cap (u8s ys) rfl (by rw [u8s_length, Nat.mul_one]) (fun j u hj => (Below.cell (B := W.heap.size) (w := W) (by repeat (first | (with_reducible exact HB5.out) | (with_reducible exact HB4.out) | (with_reducible exact Below.refl _ _) | (with_reducible refine Below.drew ?_) | (with_reducible refine Below.alloc ?_ (by first | omega | (simp; done) | (simp; omega)) _))) (by rw [add_block]; exact (HADW.out ad rfl).1)).trans ((HADW.out ad rfl).2 j u hj)) (u8s_one _) (by unfold maxLen; omega) (by omega) (by first | omega | (simp; done) | (simp; omega)) ?_; intro v5 w5 hown hgrow hnil; have HB5 := Lib.hid (grown_below (B := W.heap.size) (a := W) (by repeat (first | (with_reducible exact HB5.out) | (with_reducible exact HB4.out) | (with_reducible exact Below.refl _ _) | (with_reducible refine Below.drew ?_) | (with_reducible refine Below.alloc ?_ (by first | omega | (simp; done) | (simp; omega)) _))) (by first | exact made_own W 5 W.heap.size _ (Nat.le_refl _) (by first | rfl | omega) | exact owns_keep (made_own W 5 W.heap.size _ (Nat.le_refl _) (by first | rfl | omega)) HQ4.out | exact made_own u4 5 W.heap.size _ hz4 (by first | rfl | omega)) hgrow (Nat.le_refl _) (by first | omega | (simp; done) | (simp; omega))); have hz5 := HB5.out.size; have HO5 : Hid (w5.ownsRow W.heap.size 5 1 v5 ys.length (u8s ys)) := Lib.hid (by simpa using hown); have m0 := (bcell HB5.out (b := wr.heap.size) (by omega) 0).trans p0; have m1 := (bcell HB5.out (b := wr.heap.size) (by omega) 1).trans p1; have m2 := (bcell HB5.out (b := wr.heap.size) (by omega) 2).trans p2; have m3 := (bcell HB5.out (b := wr.heap.size) (by omega) 3).trans p3; have m4 := (bcell HB5.out (b := wr.heap.size) (by omega) 4).trans p4; clear hown hgrow hnil) | (go_simp; go_at_call 12; (with_reducible refine (of_any ys.length 0 s a N _).mono ?_); rintro e u4 ⟨rfl, hb4⟩; have HQ4 := Lib.hid hb4; have HB4 := Lib.hid (show Below W.heap.size W u4 from Below.trans (by repeat (first | (with_reducible exact HB5.out) | (with_reducible exact HB4.out) | (with_reducible exact Below.refl _ _) | (with_reducible refine Below.drew ?_) | (with_reducible refine Below.alloc ?_ (by first | omega | (simp; done) | (simp; omega)) _))) (hb4.mono (by first | omega | (simp; done) | (simp; omega)))); have hz4 := HB4.out.size; clear hb4) | (go_simp; go_at_call 18; (with_reducible refine (rbytes_any _ ys.length W.heap.size ys ys.length 0 s a N _ (by omega) (by first | exact HO5.out | exact owns_keep HO5.out HQ4.out | exact made_own W 5 W.heap.size _ (Nat.le_refl _) (by first | rfl | omega) | exact owns_keep (made_own W 5 W.heap.size _ (Nat.le_refl _) (by first | rfl | omega)) HQ4.out | exact made_own u4 5 W.heap.size _ hz4 (by first | rfl | omega)) (by first | omega | (simp; done) | (simp; omega))).mono ?_); rintro e u6 ⟨⟨v6, rfl, hown⟩, hb6⟩; have HO6 := Lib.hid hown; have HB6 := Lib.hid (Below.trans (b := _) (by repeat (first | (with_reducible exact HB5.out) | (with_reducible exact HB4.out) | (with_reducible exact Below.refl _ _) | (with_reducible refine Below.drew ?_) | (with_reducible refine Below.alloc ?_ (by first | omega | (simp; done) | (simp; omega)) _))) hb6); clear hown hb6))
            all_goals (try go_wp2_with fail)
            all_goals go_meet
            all_goals exact ⟨HO6.out, HB6.out⟩
        case rest =>
        obtain ⟨hoc, hbc⟩ := hcut
        have hel : (encB s a N).length = 1 + nb := by have := encB_length s a N; have := HNB.out; omega
        rw [hel] at hoc
        obtain ⟨_, Ac, capc, rfl, _, _, _⟩ := came_owned hoc
        have HOC := Lib.hid hoc
        have HBC := Lib.hid hbc
        have hzc := hbc.size
        have fc1 : wc.frozen? ⟨wr.heap.size, 1, none⟩ = false := (hbc.frozen (p := ⟨wr.heap.size, 1, none⟩) (by show wr.heap.size < _; omega)).trans f1'
        rw [← bcell hbc (b := wr.heap.size) (by omega)] at p0 p1 p2 p3 p4
        have HADC := Lib.hid (fun x (hx : A = some x) => (⟨by have := (HADW.out x hx).1; omega, fun j u hj => (HBC.out.cell (by rw [add_block]; exact (HADW.out x hx).1)).trans ((HADW.out x hx).2 j u hj)⟩ : x.block < wc.heap.size ∧ ∀ j u, (u8s ys)[j]? = some u → wc.cell? (x.add j) = some u))
        have HBWC := Lib.hid (HBW.out.trans (HBC.out.mono (by omega)))
        have CB := Lib.hid (bytes_any A ys.length cap ys ys.length 0 s a N wc rfl (by omega) HADC.out HNIL.out)
        rw [hel] at CB
        have HEL := Lib.hid hel
        clear f0' f1' f2' f3' f4' hoc hbc hel
        have hgc : wr.heap.size < wc.heap.size := by omega
        go_wp2_with fail
        refine CB.out.mono ?_
        rintro e u5 ⟨⟨vb, rfl, hown⟩, hb5⟩
        obtain ⟨hlen5, A5, cap5, rfl, hc5, _, _⟩ := came_owned hown
        have hz5 := hb5.size
        rw [← bcell hb5 (b := wr.heap.size) hgc] at p0 p1 p2 p3 p4
        have fr1 : u5.frozen? ⟨wr.heap.size, 1, none⟩ = false := (hb5.frozen (p := ⟨wr.heap.size, 1, none⟩) hgc).trans fc1
        have HOB5 := Lib.hid hown
        have HOC5 := Lib.hid (owns_keep HOC.out hb5)
        have HB5 := Lib.hid (HBWC.out.trans (hb5.mono (by omega)))
        clear hown hb5 hc5 hlen5 fc1 CB HADC HADW HAD HOB HCA HBC HBWC HBW
        go_wp2_with fail
        refine (of_any _ _ _ _ _ _).mono ?_
        rintro e u6 ⟨rfl, hb6⟩
        have q0 : u6.cell? ⟨wr.heap.size, 0, none⟩ = some (.int .i64 (ys.length : Int)) := by rw [bcell hb6 (b := wr.heap.size) (by simp; omega)]; go_simp
        have q1 : u6.cell? ⟨wr.heap.size, 1, none⟩ = some (.int .i64 ((ys.length : Int) + (1 + (nb : Int)))) := by rw [bcell hb6 (b := wr.heap.size) (by simp; omega)]; go_simp
        have q2 : u6.cell? ⟨wr.heap.size, 2, none⟩ = some (.int .i64 s) := by rw [bcell hb6 (b := wr.heap.size) (by simp; omega)]; go_simp
        have hz6 : u5.heap.size ≤ u6.heap.size := by have := hb6.size; simpa using this
        have HB6 := Lib.hid ((HB5.out.setCell (p := ⟨wr.heap.size, 1, none⟩) (Nat.le_refl _) _).trans (hb6.mono (by simp; omega)))
        have HOW6 := Lib.hid (owns_keep HOW.out HB6.out)
        have HOB6 := Lib.hid (owns_keep (ownsRow_setCell_below HOB5.out (a := ⟨wr.heap.size, 1, none⟩) (by show wr.heap.size < _; omega) _) hb6)
        have HOC6 := Lib.hid (owns_keep (ownsRow_setCell_below HOC5.out (a := ⟨wr.heap.size, 1, none⟩) (by show wr.heap.size < _; omega) _) hb6)
        clear hb6 HB5 HOB5 HOC5 HOC p0 p1 p2 p3 p4 fr1
        obtain ⟨c0', h0'⟩ : ∃ c : Int, c = (ys.length : Int) := ⟨_, rfl⟩
        clear h0'
        go_upto_region 18 with (at_builtin; refine wpList_append_own _ rfl _ _ 36 rfl w.heap.size 29 i1 _ 5 40 t36 hi1 hy0 hy1 hy2 rfl (by decide) _ L.length (rowCells L) rfl (HOW6.out.alloc _) ⟨_, 0, none⟩ 1 1 (opCells ((ys.length : Int), (ys.length : Int) + (1 + (nb : Int)), s, a, N)) rfl rfl (five_new _ _ _ _ _ (by go_simp) (by go_simp) (by go_simp) (by go_simp) (by go_simp)) (opCells_one _) (by unfold maxLen; omega) (by omega) (by simp; omega) ?_; intro v7 w7 hown hgrow hnil; have HWN := Lib.hid hown; have HGR := Lib.hid hgrow; clear hown hgrow hnil)
        have hgrow := HGR.out
        generalize hO : Obj.cells #[.int .i64 (ys.length : Int), .int .i64 ((ys.length : Int) + (1 + (nb : Int))), .int .i64 s, .int .i64 a, .int .i64 N] 29 = O at *
        clear hO
        have A6 := HOW6.out.alloc O
        have hne := own_above HOW.out
        have hb7 : w7.heap[wr.heap.size]? = (u6.alloc O).heap[wr.heap.size]? := hgrow.block wr.heap.size (by simp; omega) (fun e => hne e.symm)
        have hb8 : w7.heap[wr.heap.size]? = u6.heap[wr.heap.size]? := hb7.trans (Below.heap_alloc u6 O wr.heap.size (by omega))
        have r0 : w7.cell? ⟨wr.heap.size, 0, none⟩ = some (.int .i64 (ys.length : Int)) := (World.cell?_of_block (w := u6) (a := ⟨wr.heap.size, 0, none⟩) hb8).trans q0
        have r1 : w7.cell? ⟨wr.heap.size, 1, none⟩ = some (.int .i64 ((ys.length : Int) + (1 + (nb : Int)))) := (World.cell?_of_block (w := u6) (a := ⟨wr.heap.size, 1, none⟩) hb8).trans q1
        have r2 : w7.cell? ⟨wr.heap.size, 2, none⟩ = some (.int .i64 s) := (World.cell?_of_block (w := u6) (a := ⟨wr.heap.size, 2, none⟩) hb8).trans q2
        have HOW7 := HWN
        have HOB7 := Lib.hid ((HOB6.out.alloc O).kept hgrow (owns_diff (HOB6.out.alloc O) A6 (by decide)))
        have HOC7 := Lib.hid ((HOC6.out.alloc O).kept hgrow (owns_diff (HOC6.out.alloc O) A6 (by decide)))
        have HB7 := Lib.hid (grown_below (B := w.heap.size) ((HB.out.trans (HB6.out.mono hszw)).alloc (by omega) O) A6 hgrow (Nat.le_refl _) (by simp; omega))
        clear hgrow hne hb7 hb8 A6 HGR
        have cv1 := Lib.hid (conv_owned HOB7.out (by omega))
        have cv2 := Lib.hid (conv_owned HOC7.out (by omega))
        clear q0 q1 q2
        have kv1 := cv1.out
        have kv2 := cv2.out
        clear cv1 cv2
        go_quiet ((go_at_call 17; refine Calls.quiet_of_same ((rbears_is HNB.out _).mono fun _ _ h => ⟨h.1, h.2.symm⟩)))
        go_wp2
        go_roundg (gk - 1)
        case measure => have := HKK.out; omega
        case rel =>
          have hnx : (ys.length : Int) + 1 + bearsN s = (ys.length : Int) + (1 + (nb : Int)) := by have := HNB.out; omega
          have hes := HENC.out.step s a N hs0 hs1 ha0 ha HNN.out HAB.out HNS.out
          rw [hnx] at hes
          have hlen' : (ys ++ encB s a N).length = ys.length + (1 + nb) := by rw [List.length_append, HEL.out]
          have R : BackRel w len0 (.slice A5 (ys.length + (1 + nb)) cap5) v7 (.int .i64 ((k + 1 : Nat) : Int)) (k + 1) (w7.drewN nq) := by
            refine ⟨ys ++ encB s a N, L ++ [((ys.length : Int), (ys.length : Int) + (1 + (nb : Int)), s, a, N)], rfl, by omega, by omega, by simp; omega, by rw [hlen']; omega, by rw [hlen']; simp; omega, hes, ?_, ?_, ?_, below_drewN nq HB7.out⟩
            · intro y hy
              rcases List.mem_append.1 hy with hy | hy
              · exact HBY.out y hy
              · exact encB_bytes _ _ _ y hy
            · rw [hlen']
              exact owns_mono HOB7.out (by omega)
            · rw [rowCells_add, List.length_append]
              exact HOW7.out
          have R2 : k + 1 + (gk - 1) = 40 := by have := HKK.out; omega
          first
            | exact ⟨k + 1, R2, by simpa using R⟩
            | ((repeat apply Exists.intro); exact ⟨⟨k + 1, R2, by simpa using R⟩, rfl⟩)
      · have hge : ¬ (k : Int) < 40 := by omega
        have hlt' : (k : Int) < len0 := by omega
        have hrun := HENC.out.done hLy
        obtain ⟨Aw, capw, rfl, _, _, hrow⟩ := owns_cells HOW.out
        have HROW := Lib.hid (show RowAt Aw w.heap.size L wr from hrow)
        have CA := Lib.hid (all_any A ys.length cap (fun i => ys.getD i 0) wr HCA.out (by omega) (fun i _ => getD_bytes ys HBY.out i))
        rw [hrun] at CA
        clear hrun hrow HAD HNIL
        go_wp2_with fail
        refine CA.out.mono ?_
        rintro e u9 ⟨⟨B9, n9, rfl, hr9⟩, hb9⟩
        have HR9 := Lib.hid hr9
        have HRW := Lib.hid (HROW.out.below hb9)
        have HB9 := Lib.hid (HB.out.trans (hb9.mono HB.out.size))
        clear hr9 hb9
        go_wp2_with (go_at_call 15; (with_reducible refine (same_any B9 Aw _ _ _ _ L _ HR9.out HRW.out (by omega)).mono ?_); rintro e u10 ⟨rfl, hb10⟩; have HB10 := Lib.hid (HB9.out.trans (hb10.mono HB9.out.size)); clear hb10)
        go_ret
        exact ⟨rfl, HB10.out⟩
    · have hge : ¬ (k : Int) < len0 := by omega
      have hrun := HENC.out.done hLy
      obtain ⟨Aw, capw, rfl, _, _, hrow⟩ := owns_cells HOW.out
      have HROW := Lib.hid (show RowAt Aw w.heap.size L wr from hrow)
      have CA := Lib.hid (all_any A ys.length cap (fun i => ys.getD i 0) wr HCA.out (by omega) (fun i _ => getD_bytes ys HBY.out i))
      rw [hrun] at CA
      clear hrun hrow HAD HNIL
      go_wp2_with fail
      refine CA.out.mono ?_
      rintro e u9 ⟨⟨B9, n9, rfl, hr9⟩, hb9⟩
      have HR9 := Lib.hid hr9
      have HRW := Lib.hid (HROW.out.below hb9)
      have HB9 := Lib.hid (HB.out.trans (hb9.mono HB.out.size))
      clear hr9 hb9
      go_wp2_with (go_at_call 15; (with_reducible refine (same_any B9 Aw _ _ _ _ L _ HR9.out HRW.out (by omega)).mono ?_); rintro e u10 ⟨rfl, hb10⟩; have HB10 := Lib.hid (HB9.out.trans (hb10.mono HB9.out.size)); clear hb10)
      go_ret
      exact ⟨rfl, HB10.out⟩
end Go.Proofs.Ytpojffgppejhcaa
