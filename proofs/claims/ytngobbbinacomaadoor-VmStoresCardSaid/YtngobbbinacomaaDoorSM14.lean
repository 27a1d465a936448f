/- Chapter 14: VmStores, walked. -/
import Derived.Test.YtngobbbinacomaaDoorSC14
import Derived.Test.YtngobbbinacomaaDoorSJ14
import Derived.Test.YtngobbbinacomaaDoorSK14
namespace Go.Proofs.YtngobbbinacomaaDoor
open Go.RowKit Go.Proofs.YtngobbbinacomaaDoor.c11 Go.Proofs.YtngobbbinacomaaDoor.c10 Go.Proofs.YtngobbbinacomaaDoor.c13
set_option linter.unusedVariables false
set_option linter.unusedSimpArgs false
attribute [local go_sem ↓] Go.wp_at_zero Go.wp_at_succ

theorem step_append_ownS {P : Program} {ops : Array Oper} {o : Oper} {a : Act} {w : World} {K : Act → World → Prop} {Q : Exit → Act → World → Prop} {E : Prop}
    (hg : o.guard = none) (s x : Operand) (t : TypeId) (ho : o.op = .call { callee := .builtin .append, args := #[s, x], argTypes := #[t, t] })
    (base : Nat) (e : TypeId) (i : TypeInfo) (z : Value) (size bytes : Nat) (ht : P.underlying t = some (.slice e)) (hi : P.info? e = some i) (hz : i.zero = some z)
    (hsize : i.size = size) (hby : i.bytes = bytes) (hzs : z.cells.size = size) (hsz : 0 < size)
    (v : Value) (n : Nat) (xs : List Value) (hs : a.eval s = v) (hown : w.ownsRow base e size v n xs)
    (ad : Addr) (m c : Nat) (news : List Value) (hx : a.eval x = .slice (some ad) m c) (hl : news.length = m * size) (hnews : ∀ j u, news[j]? = some u → w.cell? (ad.add j) = some u) (h1 : ∀ u ∈ news, u.oneCell' = true)
    (h63 : n + m ≤ maxLen) (hbytes : (n + m) * bytes ≤ 140737488355328) (hbase : base ≤ w.heap.size)
    (h : ∀ v' w', w'.ownsRow base e size v' (n + m) (xs ++ news) → w.grownBy w' v.ownBlock → (v' = .slice none 0 0 ↔ v = .slice none 0 0 ∧ m = 0) → K (a.put o.dst v') w') :
    if Region.wanted o (yielded ops a.tmps) = true then Oper.wp P o a w K Q else E := by
  have hw : Region.wanted o (yielded ops a.tmps) = true := by simp [Region.wanted, hg]
  rw [if_pos hw]
  exact wp_append_own w s x t ho base e i z size bytes ht hi hz hsize hby hzs hsz v n xs hs hown ad m c news hx hl hnews h1 h63 hbytes hbase h

theorem CodeLies.allocS {w : World} {g : Nat} {b : List Int} {c : Nat} (h : CodeLies w g b c) (o : Obj) : CodeLies (w.alloc o) g b c := h.below ((Below.refl _ _).alloc (Nat.le_refl _) _)
theorem CodeLies.drewS {w : World} {g : Nat} {b : List Int} {c : Nat} (h : CodeLies w g b c) : CodeLies w.drew g b c := ⟨h.cg, h.lt, h.cap⟩
theorem four_inS {w W : World} {B m : Nat} {V : Nat → Int} (h : ∀ q, q < 4 → w.cell? ⟨m, q, none⟩ = some (.int .i64 (V q))) (hb : Below B w W) (hm : m < B) : W.cell? ⟨m, 0, none⟩ = some (.int .i64 (V 0)) ∧ W.cell? ⟨m, 1, none⟩ = some (.int .i64 (V 1)) ∧ W.cell? ⟨m, 2, none⟩ = some (.int .i64 (V 2)) ∧ W.cell? ⟨m, 3, none⟩ = some (.int .i64 (V 3)) :=
  ⟨(dcell hb hm 0).trans (h 0 (by decide)), (dcell hb hm 1).trans (h 1 (by decide)), (dcell hb hm 2).trans (h 2 (by decide)), (dcell hb hm 3).trans (h 3 (by decide))⟩

theorem ret_trueS {b : Bool} (h : b = true) : Ending.returned (.bool b) = .returned (.bool true) := by rw [h]
/-- What is read, where it is stored, of numbers. -/
def spotsL (z : Nat → Int) (n : Nat) : List (Int × Int) := (List.range n).map fun i => ((z i).tdiv 21 % 4, z i % 21)
theorem spotsL_len (z : Nat → Int) (n : Nat) : (spotsL z n).length = n := by simp [spotsL]
theorem spotsL_add (z : Nat → Int) (n : Nat) : spotsL z (n + 1) = spotsL z n ++ [((z n).tdiv 21 % 4, z n % 21)] := by simp [spotsL, List.range_succ]
theorem spotsL_ok (z : Nat → Int) (n : Nat) : Spots (spotsL z n) := by
  intro x hx
  simp only [spotsL, List.mem_map] at hx
  obtain ⟨i, _, rfl⟩ := hx
  simp only
  omega
def inEnvS (i0 i1 i2 i3 : Int) : Env := envC none 0 [] [] none 0 [] 0 0 0 i0 i1 i2 i3 0 none 0
theorem stoS_env {E E' : Env} (h : ∀ p, inD E p = inD E' p) (l : List (Int × Int)) : ∀ C, stoS E l C = stoS E' l C := by
  induction l with
  | nil => intro C; rfl
  | cons x l ih => intro C; simp only [stoS, h]; exact ih _
def stoW (i0 i1 i2 i3 : Int) (l : List (Int × Int)) : List Int := stoS (inEnvS i0 i1 i2 i3) l begL
theorem stoW_len (i0 i1 i2 i3 : Int) (l : List (Int × Int)) : (stoW i0 i1 i2 i3 l).length = 21 := stoS_len _ _ _
theorem stoW_exec (SA SCa : Option Addr) (SC Cc c f g : Nat) (La : Option Addr) (Lc : Nat) (i0 i1 i2 i3 : Int) (l : List (Int × Int)) (hp : Spots l) (hl : l.length ≤ 16) :
    execP (envC SA SC (symsP true) [7, -1] SCa Cc (stoB l ++ [0]) c f g i0 i1 i2 i3 0 La Lc) 101 (stoB l ++ [0]) 0 ⟨begL, 5, 6, 7, 8, 100, 0, []⟩ = (⟨stoW i0 i1 i2 i3 l, 5, 6, 7, 8, 100 - (3 * l.length + 1), 3 * l.length + 1, []⟩, 0) := by
  have h := stos_exec (envC SA SC (symsP true) [7, -1] SCa Cc (stoB l ++ [0]) c f g i0 i1 i2 i3 0 La Lc) l hp [] 101 ⟨begL, 5, 6, 7, 8, 100, 0, []⟩ rfl (by omega) (by simp only []; omega) rfl
  simp only [List.nil_append, List.length_nil] at h
  rw [show ((0 : Nat) : Int) = 0 from rfl] at h
  have e := stoS_env (E := envC SA SC (symsP true) [7, -1] SCa Cc (stoB l ++ [0]) c f g i0 i1 i2 i3 0 La Lc) (E' := inEnvS i0 i1 i2 i3) (fun p => rfl) l begL
  rw [h, e]
  simp only [stoW, Nat.zero_add]
def inVS (i0 i1 i2 i3 : Int) (p : Nat) : Int := if p = 0 then i0 else if p = 1 then i1 else if p = 2 then i2 else i3
theorem inVS_is (i0 i1 i2 i3 : Int) (p : Nat) : inD (inEnvS i0 i1 i2 i3) p = inVS i0 i1 i2 i3 p := by
  rcases p with _ | _ | _ | p <;> simp [inD, inVS, inEnvS, envC] <;> omega

theorem stoW_add (i0 i1 i2 i3 : Int) (l : List (Int × Int)) (p k : Nat) : stoW i0 i1 i2 i3 (l ++ [((p : Int), (k : Int))]) = (stoW i0 i1 i2 i3 l).set k (wrapK (stoK k) (wrapK 5 (inVS i0 i1 i2 i3 p))) := by
  unfold stoW
  rw [stoS_add, inVS_is]
  rfl
theorem own_belowB {w w' : World} {B base n c g : Nat} {e : TypeId} {s : Nat} {xs : List Value} (h : w.ownsRow base e s (.slice (some ⟨g, 0, none⟩) n c) n xs) (hb : Below B w w') (hg : g < B) : w'.ownsRow base e s (.slice (some ⟨g, 0, none⟩) n c) n xs := by
  refine ⟨h.1, ?_⟩
  rcases h.2 with ⟨h1, _⟩ | ⟨g', cap, cur, h1, h2, h3, h4⟩
  · cases h1
  · have : g = g' := by injection h1 with e1; injection e1 with e1; injection e1
    subst this
    exact .inr ⟨g, cap, cur, h1, h2, (hb.block g hg).trans h3, h4⟩
def StoRel (wv : World) (B1 B2 wb wc : Nat) (top : Nat) (z : Nat → Int) (i0 i1 i2 i3 : Int) (bv k : Value) (wr : World) : Prop :=
  ∃ j : Nat, k = .int .i64 j ∧ j ≤ top ∧ wr.ownsRow B2 5 1 bv (6 * j) (u8s (stoB (spotsL z j))) ∧ wr.ownsRow B1 3 1 (.slice (some ⟨wb, 0, none⟩) 21 wc) 21 ((stoW i0 i1 i2 i3 (spotsL z j)).map (Value.int .i64)) ∧ Below B1 wv wr ∧ B2 ≤ wr.heap.size

set_option maxHeartbeats 8000000 in
set_option maxRecDepth 100000 in
theorem vmStores_walk (A0 : Option Addr) (len0 cap0 : Nat) (z0 : Nat → Int) (i0 i1 i2 i3 : Int) (w : World) (c0 : Came w A0 len0 cap0 fun j => .int .i64 (z0 j)) (w0 : ∀ j, j < len0 → I64 (z0 j)) (w00 : I64 i0) (w01 : I64 i1) (w02 : I64 i2) (w03 : I64 i3) :
    Calls Tryd.prog 14 #[.slice A0 len0 cap0, .agg #[.int .i64 i0, .int .i64 i1, .int .i64 i2, .int .i64 i3]] w fun e w' => e = .returned (.bool true) ∧ Below w.heap.size w w' := by
  have KN := Lib.hid (fun W => known14_any W)
  have WI := Lib.hid (fun a n hn hn' W => within14_any a n hn hn' W)
  obtain ⟨y0, hi, hz0, hz1, hz2⟩ := info_parts byteInfo
  have t22 := byteRow
  go_enter Tryd.func14, Tryd.ntmps14
  go_wp2_with (first | (go_at_call 17; refine (KN.out _).mono ?_; rintro e w1 ⟨rfl, hb1⟩; have HB1 := Lib.hid hb1; obtain ⟨o0, o1, o2, o3, -, -, -, -⟩ := box_new4 hb1; clear hb1) | (go_at_call 30; refine (syms_any true _).mono ?_; rintro e w2 ⟨sb, rfl, hs2, hb2⟩; have HS2 := Lib.hid hs2; have HB2 := Lib.hid hb2; clear hs2 hb2))
  refine (rcells_any (some ⟨sb, 0, none⟩) 7 7 (symsP true) _ ((HS2.out.below (((Below.refl _ _).alloc (Nat.le_refl _) _).alloc (by simp) _)).moreS (by simp; omega)) (by decide) (by decide) (by decide) (symsP_size true)).mono ?_
  rintro e w3 ⟨v3, rfl, ho3, hb3⟩
  have HB3 := Lib.hid (show Below w2.heap.size w2 w3 from (((Below.refl _ _).alloc (Nat.le_refl _) _).alloc (by simp) _).trans (hb3.mono (by simp; omega)))
  rw [cells21] at ho3
  have hs3 := hb3.size
  clear hb3
  obtain ⟨lb, lc, rfl, _, _⟩ := ho3.form (by decide)
  obtain ⟨_, lc', hl0, hl1, hl2⟩ := own_slice ho3
  obtain rfl : lc = lc' := by injection hl0
  unfold maxLen at hl2
  have HO3 := Lib.hid ho3
  clear ho3 hl0
  go_wp2_with fail
  refine (rbegin_any (some ⟨lb, 0, none⟩) 21 lc (cellsOf (symsP true)) _ (Row.of_own HO3.out) (by decide) cells21.symm hl1 hl2).mono ?_
  rintro e w4 ⟨v4, rfl, ho4, hb4⟩
  rw [cells21, begin_true] at ho4
  obtain ⟨wb, wcp, rfl, _, _⟩ := ho4.form (by decide)
  obtain ⟨_, wc', hc0, hc1, hc2⟩ := own_slice ho4
  obtain rfl : wcp = wc' := by injection hc0
  unfold maxLen at hc2
  have HO4 := Lib.hid ho4
  have HB4 := Lib.hid hb4
  clear ho4 hb4 hc0
  go_wp2_with fail
  have hs1 := HB1.out.size
  simp at hs1
  have hs2 := HB2.out.size
  have hs4 := HB4.out.size
  have hsq := HB3.out.size
  obtain ⟨B1, hB1⟩ : ∃ n, w3.heap.size = n := ⟨_, rfl⟩
  obtain ⟨B2, hB2⟩ : ∃ n, w4.heap.size = n := ⟨_, rfl⟩
  have hwb := HO4.out.lt wb rfl
  have hlb := HO3.out.lt lb rfl
  have HB0 := Lib.hid (show Below w.heap.size w w4 from ((Below.refl _ w).alloc (Nat.le_refl _) _).trans ((HB1.out.mono (by simp)).trans ((HB2.out.mono (by first | omega | (simp; omega))).trans ((HB3.out.mono (by omega)).trans (HB4.out.mono (by omega))))))
  have HIN := Lib.hid (show ∀ p, p < 4 → w4.cell? ⟨w.heap.size, p, none⟩ = some (.int .i64 (inVS i0 i1 i2 i3 p)) from by
    intro p hp
    have hb : ∀ j, w4.cell? ⟨w.heap.size, j, none⟩ = w1.cell? ⟨w.heap.size, j, none⟩ := fun j => (dcell HB4.out (by omega) j).trans ((dcell HB3.out (by omega) j).trans (dcell HB2.out (by omega) j))
    rcases (show p = 0 ∨ p = 1 ∨ p = 2 ∨ p = 3 by omega) with rfl | rfl | rfl | rfl
    · exact (hb 0).trans o0
    · exact (hb 1).trans o1
    · exact (hb 2).trans o2
    · exact (hb 3).trans o3)
  have HL := Lib.hid (show ∀ k : Nat, k < 21 → w4.cell? ⟨lb, k * 6 + 1, none⟩ = some (.int .i64 (stoK k)) from by
    intro k hk
    rw [dcell HB4.out (by omega), HO3.out.cellAt (k * 6 + 1) (by omega)]
    have hk' : k < (cellsOf (symsP true)).length := by rw [cells21]; exact hk
    obtain ⟨cd, hcd⟩ : ∃ c, (cellsOf (symsP true))[k]? = some c := ⟨_, List.getElem?_eq_getElem hk'⟩
    refine (flat_get cellCells 6 (fun _ => rfl) _ k 1 cd hcd (by omega)).trans ?_
    have : stoK k = cd.kind := by
      unfold stoK cellD
      rw [if_neg (by omega)]
      simp [hcd]
    rw [this]
    rfl)
  have HPT := Lib.hid (show ∀ j, j < len0 → ∃ b off, A0 = some ⟨b, off, none⟩ ∧ b < w.heap.size ∧ w4.cell? ⟨b, off + j, none⟩ = some (.int .i64 (z0 j)) from fun j hj => by
    obtain ⟨b, off, hA, hb, hc⟩ := c0.at_ (by omega)
    exact ⟨b, off, hA, hb, (dcell HB0.out hb _).trans (hc j hj)⟩)
  have hlc := c0.le
  have hcm := c0.max
  have HR0 := Lib.hid (show StoRel w4 B1 B2 wb wcp (min len0 16) z0 i0 i1 i2 i3 (.slice none 0 0) (.int .i64 0) w4 from ⟨0, rfl, Nat.zero_le _, World.ownsRow_nil _ _ _ _, by rw [← hB1]; exact HO4.out, Below.refl _ _, by omega⟩)
  clear o0 o1 o2 o3 c0 HO3 HO4 HB1 HB2 HB3 HB4 HS2
  have hcI : (21 : Int) ≤ wcp := by omega
  have hlI : (21 : Int) ≤ lc := by omega
  go_loopw [8, 9] (fun bv k wr => StoRel w4 B1 B2 wb wcp (min len0 16) z0 i0 i1 i2 i3 bv k wr) (fun _ k _ => min len0 16 - (intOf k).toNat)
  case atStart => exact HR0.out
  case round =>
    obtain ⟨j, rfl, hj, ho, hq, hb, hlt⟩ := hrel
    have HOJ := Lib.hid ho
    have HQJ := Lib.hid hq
    have HBJ := Lib.hid hb
    by_cases hjl : j < min len0 16
    · have hj1 : (j : Int) < len0 := by omega
      have hj2 : (j : Int) < 16 := by omega
      obtain ⟨pb, po, rfl, hpb, hpc⟩ := HPT.out j (by omega)
      have pc : wr.cell? ⟨pb, po + j, none⟩ = some (.int .i64 (z0 j)) := (dcell hb (by omega) _).trans hpc
      obtain ⟨kn, hkn⟩ := Int.eq_ofNat_of_zero_le (Int.emod_nonneg (z0 j) (show (21 : Int) ≠ 0 by decide))
      obtain ⟨pn, hpn⟩ := Int.eq_ofNat_of_zero_le (Int.emod_nonneg ((z0 j).tdiv 21) (show (4 : Int) ≠ 0 by decide))
      have hkn4 : kn < 21 := by have := Int.emod_lt_of_pos (z0 j) (show (0 : Int) < 21 by decide); omega
      have hpn4 : pn < 4 := by have := Int.emod_lt_of_pos ((z0 j).tdiv 21) (show (0 : Int) < 4 by decide); omega
      have hq4 : IntKind.i64.wrap ((z0 j).tdiv 21) = (z0 j).tdiv 21 := IntWalk.i64_in _ (by
        have hI := w0 j (by omega)
        have h1 := Int.tdiv_eq_ediv (a := z0 j) (b := 21)
        unfold I64 at hI
        rw [h1]
        have h4 : Int.sign 21 = 1 := rfl
        split <;> (try rw [h4]) <;> omega)
      have WK := fun W => WI.out (z0 j) 21 (by decide) (by decide) W
      have WP := fun W => WI.out ((z0 j).tdiv 21) 4 (by decide) (by decide) W
      rw [hkn] at WK
      rw [hpn] at WP
      have HWK := Lib.hid (fun W => show Calls Tryd.prog 21 #[.int .i64 (z0 j), .int .i64 21] W (fun e w' => e = .returned (.int .i64 kn) ∧ w' = W) from (WK W).mono fun e w' ⟨h1, h2⟩ => And.intro h1 h2.symm)
      have HWP := Lib.hid (fun W => show Calls Tryd.prog 21 #[.int .i64 (IntKind.i64.wrap ((z0 j).tdiv 21)), .int .i64 4] W (fun e w' => e = .returned (.int .i64 pn) ∧ w' = W) from by rw [hq4]; exact (WP W).mono fun e w' ⟨h1, h2⟩ => And.intro h1 h2.symm)
      have hpnI : (pn : Int) < 4 := by omega
      have hknI : (kn : Int) < 21 := by omega
      have hK := stoK_ok kn (by omega)
      have hkv : spotsL z0 (j + 1) = spotsL z0 j ++ [((pn : Int), (kn : Int))] := by rw [spotsL_add, hkn, hpn]
      have HKV := Lib.hid hkv
      obtain ⟨K, hKK⟩ : ∃ K, stoK kn = K := ⟨_, rfl⟩
      have lk : wr.cell? ⟨lb, kn * 6 + 1, none⟩ = some (.int .i64 K) := (dcell hb (by omega) _).trans ((HL.out kn hkn4).trans (by rw [hKK]))
      rw [hKK] at hK
      have HKK := Lib.hid hKK
      have u8p : IntKind.u8.wrap (pn : Int) = pn := IntWalk.u8_in _ (by omega)
      have u8k : IntKind.u8.wrap (kn : Int) = kn := IntWalk.u8_in _ (by omega)
      have u8K : IntKind.u8.wrap K = K := IntWalk.u8_in _ (by omega)
      have inp : wr.cell? ⟨w.heap.size, pn, none⟩ = some (.int .i64 (inVS i0 i1 i2 i3 pn)) := (dcell hb (by omega) _).trans (HIN.out pn hpn4)
      have HW5 := Lib.hid (fun W => rwrap_any 5 (inVS i0 i1 i2 i3 pn) W)
      have HWC := Lib.hid (fun W => rwrap_any K (wrapK 5 (inVS i0 i1 i2 i3 pn)) W)
      clear WP WK hq4 hpn hkn hpc hb hq ho hkv hKK
      go_wp2_with fail
      go_quiet ((go_at_call 21; first | (with_reducible refine Calls.quiet_of_same (HWK.out _)) | (with_reducible refine Calls.quiet_of_same (HWP.out _))))
      obtain ⟨wq, hwq⟩ : ∃ x : World, x = wr.drewN nq := ⟨_, rfl⟩
      have HOQ := Lib.hid (show wq.ownsRow B2 5 1 u8 (6 * j) (u8s (stoB (spotsL z0 j))) from by rw [hwq]; exact HOJ.out)
      have HQQ := Lib.hid (show wq.ownsRow B1 3 1 (.slice (some ⟨wb, 0, none⟩) 21 wcp) 21 ((stoW i0 i1 i2 i3 (spotsL z0 j)).map (Value.int .i64)) from by rw [hwq]; exact HQJ.out)
      have HBQ := Lib.hid (show Below B1 w4 wq from by rw [hwq]; exact HBJ.out.trans ⟨rfl, rfl, rfl, Nat.le_refl _, fun _ _ => rfl⟩)
      have inq : wq.cell? ⟨w.heap.size, pn, none⟩ = some (.int .i64 (inVS i0 i1 i2 i3 pn)) := by rw [hwq]; exact inp
      have lkq : wq.cell? ⟨lb, kn * 6 + 1, none⟩ = some (.int .i64 K) := by rw [hwq]; exact lk
      have hltq : B2 ≤ wq.heap.size := by rw [hwq]; exact hlt
      rw [← hwq]
      obtain ⟨xo, hxo⟩ : ∃ x, (stoW i0 i1 i2 i3 (spotsL z0 j))[kn]? = some x := ⟨_, List.getElem?_eq_getElem (by rw [stoW_len]; exact hkn4)⟩
      have wkq := own_at HQQ.out kn xo hxo
      have wfq := HQQ.out.frozenAt kn
      clear hwq inp lk pc HOJ HQJ HBJ hlt hxo
      go_wp2_with (at_builtin; refine wpList_append_own _ rfl _ _ 44 rfl B2 5 y0 _ 1 1 t22 hi hz0 hz1 hz2 rfl (by decide) _ (6 * j) (u8s (stoB (spotsL z0 j))) rfl (HOQ.out.alloc _) ⟨_, 0, none⟩ 6 6 (u8s [24, (pn : Int), 23, K, 4, (kn : Int)]) rfl rfl (lit_cells _ [24, (pn : Int), 23, K, 4, (kn : Int)] _) (u8s_one _) (by unfold maxLen; omega) (by omega) (by simp; omega) ?_; intro v2 u2 hown hgrow hnil; have HO2 := Lib.hid (show u2.ownsRow B2 5 1 v2 (6 * j + 6) (u8s (stoB (spotsL z0 j)) ++ u8s [24, (pn : Int), 23, K, 4, (kn : Int)]) from hown); have HB2 := Lib.hid (grown_below (B := B2) ((Below.refl B2 wq).alloc (by omega) _) (HOQ.out.alloc _) hgrow (Nat.le_refl _) (by simp; omega)); have inu := (dcell HB2.out (b := w.heap.size) (by omega) pn).trans inq; have lku := (dcell HB2.out (b := lb) (by omega) (kn * 6 + 1)).trans lkq; have wku := (dcell HB2.out (b := wb) (by omega) kn).trans wkq; have wfu := (dfroz HB2.out (b := wb) (by omega) kn).trans wfq; clear hown hgrow hnil)
      go_region_with (first | (go_at_call 26; first | (with_reducible refine (HW5.out _).mono ?_; rintro e wx ⟨rfl, rfl⟩) | (with_reducible refine (HWC.out _).mono ?_; rintro e wx ⟨rfl, rfl⟩)))
      all_goals
        go_wp2_with fail
        go_roundw
        case rel =>
          have hq2 := own_belowB HQQ.out HB2.out (by omega)
          have hq3 := (hq2.stored kn (.int .i64 (wrapK K (wrapK 5 (inVS i0 i1 i2 i3 pn))))).1
          rw [← List.map_set] at hq3
          have hz2 := HB2.out.size
          refine ⟨j + 1, rfl, by omega, ?_, ?_, ?_, ?_⟩
          · rw [HKV.out, stoB_add, HKK.out, u8s_app, show 6 * (j + 1) = 6 * j + 6 by omega]
            repeat (first | (with_reducible exact HO2.out) | (with_reducible refine own_dr ?_) | (with_reducible refine own_setFar ?_ (fun e => by have h : B2 ≤ wb := (HO2.out.lt _ e).1; omega) _))
          · rw [HKV.out, stoW_add, HKK.out]
            exact own_dr hq3
          · exact ((HBQ.out.trans (HB2.out.mono (by omega))).setCell (by show B1 ≤ wb; omega) _).drew
          · first | (simp; omega) | omega
        case measure => simp [intOf]; omega
    · have hje : j = min len0 16 := by omega
      have hnot : ¬ (j : Int) < len0 ∨ ((j : Int) < len0 ∧ ¬ (j : Int) < 16) := by omega
      obtain ⟨wq, hwq⟩ : ∃ x : World, x = wr := ⟨_, rfl⟩
      subst hwq
      obtain ⟨code, hcode⟩ : ∃ c, c = stoB (spotsL z0 j) ++ [0] := ⟨_, rfl⟩
      have hp16 : (spotsL z0 j).length ≤ 16 := by rw [spotsL_len]; omega
      have hlen : code.length = 6 * j + 1 := by rw [hcode]; simp [stoB_len, spotsL_len]
      have RN := Lib.hid (fun (u : World) (g cc : Nat) (h : CodeLies u g code cc) => show Calls Tryd.prog 29 #[.slice (some ⟨g, 0, none⟩) (6 * j + 1) cc, .agg #[.int .i64 (inVS i0 i1 i2 i3 0), .int .i64 (inVS i0 i1 i2 i3 1), .int .i64 (inVS i0 i1 i2 i3 2), .int .i64 (inVS i0 i1 i2 i3 3)], .int .i64 0] u fun e w' => Below u.heap.size u w' ∧ ∃ v, e = .returned (.tuple #[v, .agg #[.int .i64 5, .int .i64 6, .int .i64 7, .int .i64 8], .int .i64 ((3 * j + 1 : Nat) : Int), .int .i64 0, .bool true]) ∧ w'.ownsRow u.heap.size 3 1 v 21 ((stoW i0 i1 i2 i3 (spotsL z0 j)).map (Value.int .i64)) from by
        subst hcode
        have h := run14_any g _ cc i0 i1 i2 i3 0 u h (stos_fine _ (spotsL_ok z0 j) hp16) (fun SA SC Ca Cc f La Lc => stoW_exec SA Ca SC Cc cc f g La Lc i0 i1 i2 i3 _ (spotsL_ok z0 j) hp16)
        rw [hlen] at h
        simp only [spotsL_len, stoW_len] at h
        exact h)
      have hlz : w.heap.size < B2 := by omega
      obtain ⟨n0, n1, n2, n3⟩ := four_inS HIN.out hb (show w.heap.size < B1 by omega)
      have HIQ := Lib.hid (show ∀ q, q < 4 → wq.cell? ⟨w.heap.size, q, none⟩ = some (.int .i64 (inVS i0 i1 i2 i3 q)) from fun q hq => (dcell hb (by omega) q).trans (HIN.out q hq))
      have hu8 : u8s code = u8s (stoB (spotsL z0 j)) ++ u8s [0] := by rw [hcode, u8s_app]
      have HU8 := Lib.hid hu8
      have HJE := Lib.hid hje
      have hj16 : j ≤ 16 := by omega
      clear hb ho hq hu8 hcode hp16 hje
      have HOQ := HOJ
      have hwa : w.heap.size < wq.heap.size := by omega
      have hwb2 : ¬ w.heap.size = wq.heap.size := by omega
      have hwc2 : ¬ w.heap.size = wq.heap.size + 1 := by omega
      have HNE := Lib.hid (show ∀ b, wq.heap.size ≤ b → some b ≠ u8.ownBlock from fun b hb e => by have := (HOJ.out.lt b e.symm).2; omega)
      clear hj hjl
      rcases hnot with hn1 | ⟨hn1, hn2⟩
      all_goals
        go_wp2_with fail
        go_cut [12, 13, 14, 15, 16] (fun c12 c13 c14 c15 c16 wx => ∃ (v : Value) (g : Nat), c12 = v ∧ c13 = .pointer (some ⟨g, 0, none⟩) ∧ c14 = .int .i64 ((3 * j + 1 : Nat) : Int) ∧ c15 = .int .i64 0 ∧ c16 = .bool true ∧ wx.ownsRow 0 3 1 v 21 ((stoW i0 i1 i2 i3 (spotsL z0 j)).map (Value.int .i64)) ∧ Below B2 wq wx)
        case first =>
          go_region_law (first
            | (refine step_append_ownS rfl _ _ 44 rfl B2 5 y0 _ 1 1 t22 hi hz0 hz1 hz2 rfl (by decide) u8 (6 * j) (u8s (stoB (spotsL z0 j))) rfl (by repeat (first | (with_reducible exact HOQ.out) | (with_reducible refine World.ownsRow.alloc ?_ _) | (with_reducible refine own_dr ?_))) ⟨_, 0, none⟩ 1 1 (u8s [0]) rfl rfl (one_cellB (by go_simp)) (u8s_one _) (by unfold maxLen; omega) (by omega) (by first | omega | (simp; done) | (simp; omega)) ?_; intro v2 u2 hown hgrow hnil; have HO2 := Lib.hid (show u2.ownsRow B2 5 1 v2 (6 * j + 1) (u8s code) from by rw [HU8.out]; exact hown); have z2 := hgrow.size; (try simp at z2); have HB2 := Lib.hid (grown_below (B := B2) (a := wq) (v := u8) (by first | exact (Below.refl _ wq).drew.alloc (by first | omega | (simp; done) | (simp; omega)) _ | exact ((Below.refl _ wq).drew.alloc (by first | omega | (simp; done) | (simp; omega)) _).alloc (by first | omega | (simp; done) | (simp; omega)) _) (by first | exact HOQ.out.alloc _ | exact (HOQ.out.alloc _).alloc _) hgrow (Nat.le_refl _) (by first | omega | (simp; done) | (simp; omega))); obtain ⟨g2, cc2, rfl, hcl⟩ := CodeLies.of_own (b := code) HO2.out (by omega); have HCL := Lib.hid hcl; obtain ⟨m0, m1, m2, m3⟩ := four_inS HIQ.out HB2.out hlz; have hw2 : w.heap.size < u2.heap.size := (by have := HB2.out.size; first | omega | (simp at this; omega)); have hw3 : ¬ w.heap.size = u2.heap.size := (by omega); (try have g0c := fun o => World.cell?_of_block (a := ⟨wq.heap.size, o, none⟩) (hgrow.block (wq.heap.size) (by first | omega | (simp; done) | (simp; omega)) (HNE.out _ (by first | omega | (simp; done) | (simp; omega))))); (try have g0f := fun o => World.frozen?_of_block (a := ⟨wq.heap.size, o, none⟩) (hgrow.block (wq.heap.size) (by first | omega | (simp; done) | (simp; omega)) (HNE.out _ (by first | omega | (simp; done) | (simp; omega))))); (try have g1c := fun o => World.cell?_of_block (a := ⟨wq.heap.size + 1, o, none⟩) (hgrow.block (wq.heap.size + 1) (by first | omega | (simp; done) | (simp; omega)) (HNE.out _ (by first | omega | (simp; done) | (simp; omega))))); (try have g1f := fun o => World.frozen?_of_block (a := ⟨wq.heap.size + 1, o, none⟩) (hgrow.block (wq.heap.size + 1) (by first | omega | (simp; done) | (simp; omega)) (HNE.out _ (by first | omega | (simp; done) | (simp; omega))))); clear hown hgrow hnil hcl)
            | (go_simp; go_at_call 29; (with_reducible refine (RN.out _ _ _ (by repeat (first | (with_reducible exact HCL.out) | (with_reducible refine CodeLies.allocS ?_ _) | (with_reducible refine CodeLies.drewS ?_)))).mono ?_); rintro e w3 ⟨hb3, v3, rfl, ho3⟩; have z3 := hb3.size; (try simp at z3); (try have y0 : v3.ownBlock ≠ some wq.heap.size := fun e => by have h := ho3.lt _ e; first | omega | (simp at h; done) | (simp at h; omega)); (try have y1 : v3.ownBlock ≠ some (wq.heap.size + 1) := fun e => by have h := ho3.lt _ e; first | omega | (simp at h; done) | (simp at h; omega)); (try have y2 : v3.ownBlock ≠ some u2.heap.size := fun e => by have h := ho3.lt _ e; first | omega | (simp at h; done) | (simp at h; omega)); have y9 : v3.ownBlock ≠ some w3.heap.size := fun e => (by have h := ho3.lt _ e; omega); have HO3 := Lib.hid ho3; have HB3 := Lib.hid (show Below B2 wq w3 from Below.trans (by repeat (first | (with_reducible exact HB3.out) | (with_reducible exact HB2.out) | (with_reducible exact Below.refl _ _) | (with_reducible refine Below.setCell ?_ (by first | omega | (simp; done) | (simp; omega)) _) | (with_reducible refine Below.drew ?_) | (with_reducible refine Below.alloc ?_ (by first | omega | (simp; done) | (simp; omega)) _))) (hb3.mono (by first | omega | (simp; done) | (simp; omega)))); (try have p3 := dcell hb3 (b := wq.heap.size) (by first | omega | (simp; done) | (simp; omega))); (try have p3f := dfroz hb3 (b := wq.heap.size) (by first | omega | (simp; done) | (simp; omega))); (try have p4 := dcell hb3 (b := wq.heap.size + 1) (by first | omega | (simp; done) | (simp; omega))); (try have p4f := dfroz hb3 (b := wq.heap.size + 1) (by first | omega | (simp; done) | (simp; omega))); (try have p5 := dcell hb3 (b := u2.heap.size) (by first | omega | (simp; done) | (simp; omega))); (try have p5f := dfroz hb3 (b := u2.heap.size) (by first | omega | (simp; done) | (simp; omega))); clear hb3 ho3))
          all_goals (try go_wp2_with fail)
          all_goals go_meet
          all_goals refine ⟨_, _, rfl, rfl, rfl, rfl, rfl, ?_, ?_⟩
          all_goals repeat (first | (with_reducible refine own_base HO3.out (Nat.zero_le _)) | (with_reducible refine own_setFar ?_ (by assumption) _) | (with_reducible refine World.ownsRow.alloc ?_ _) | (with_reducible refine own_dr ?_) | (with_reducible exact HB3.out) | (with_reducible exact HB2.out) | (with_reducible exact Below.refl _ _) | (with_reducible refine Below.setCell ?_ (by first | omega | (simp; done) | (simp; omega)) _) | (with_reducible refine Below.drew ?_) | (with_reducible refine Below.alloc ?_ (by first | omega | (simp; done) | (simp; omega)) _))
        case rest =>
          obtain ⟨v5, g5, hv5, rfl, rfl, rfl, rfl, ho5, hb5⟩ := hcut
          subst hv5
          obtain ⟨cg, cc, hcg, _, _⟩ := ho5.form (by decide)
          subst hcg
          obtain ⟨_, cc', hx0, hx1, hx2⟩ := own_slice ho5
          obtain rfl : cc = cc' := by injection hx0
          unfold maxLen at hx2
          have hqx := own_belowB HQJ.out hb5 (show wb < B2 by omega)
          have hzx := hb5.size
          have IN := Lib.hid (ints_same cg wb cc wcp 21 (stoW i0 i1 i2 i3 (spotsL z0 j)) wc (ho5.lt cg rfl).2 (by omega) (stoW_len _ _ _ _ _) ⟨by omega, by omega⟩ ⟨by omega, by omega⟩ (fun q x hq => own_at ho5 q x hq) (fun q x hq => own_at hqx q x hq))
          have HB5 := Lib.hid (show Below w.heap.size w wc from HB0.out.trans ((HBJ.out.mono (by omega)).trans (hb5.mono (by omega))))
          have hzz : w.heap.size ≤ wc.heap.size := by omega
          clear hx0 ho5 hqx hb5 HQJ HBJ HOJ HOQ HIQ HU8 RN HIN HR0 HPT HL
          go_wp2_with fail
          with_reducible refine (IN.out).mono ?_
          rintro e w6 ⟨rfl, hb6⟩
          have HB6 := Lib.hid hb6
          clear hb6
          go_wp2_with fail
          go_ret
          exact ⟨ret_trueS (by have := HJE.out; simp; omega), below3 HB5.out hzz HB6.out⟩
end Go.Proofs.YtngobbbinacomaaDoor
