/- Chapter 14: VmOuts, walked. -/
import Derived.Test.YtngobbbinacomaaDoorSC14
import Derived.Test.YtngobbbinacomaaDoorSE14
namespace Go.Proofs.YtngobbbinacomaaDoor
open Go.RowKit Go.Proofs.YtngobbbinacomaaDoor.c11 Go.Proofs.YtngobbbinacomaaDoor.c10 Go.Proofs.YtngobbbinacomaaDoor.c13
set_option linter.unusedVariables false
set_option linter.unusedSimpArgs false
attribute [local go_sem ↓] Go.wp_at_zero Go.wp_at_succ

theorem step_append_own {P : Program} {ops : Array Oper} {o : Oper} {a : Act} {w : World} {K : Act → World → Prop} {Q : Exit → Act → World → Prop} {E : Prop}
    (hg : o.guard = none) (s x : Operand) (t : TypeId) (ho : o.op = .call { callee := .builtin .append, args := #[s, x], argTypes := #[t, t] })
    (base : Nat) (e : TypeId) (i : TypeInfo) (z : Value) (size bytes : Nat) (ht : P.underlying t = some (.slice e)) (hi : P.info? e = some i) (hz : i.zero = some z)
    (hsize : i.size = size) (hby : i.bytes = bytes) (hzs : z.cells.size = size) (hsz : 0 < size)
    (v : Value) (n : Nat) (xs : List Value) (hs : a.eval s = v) (hown : w.ownsRow base e size v n xs)
    (ad : Addr) (m c : Nat) (news : List Value) (hx : a.eval x = .slice (some ad) m c) (hl : news.length = m * size) (hnews : ∀ j u, news[j]? = some u → w.cell? (ad.add j) = some u) (h1 : ∀ u ∈ news, u.oneCell' = true)
    (h63 : n + m ≤ maxLen) (hbytes : (n + m) * bytes ≤ 140737488355328) (hbase : base ≤ w.heap.size)
    (h : ∀ v' w', w'.ownsRow base e size v' (n + m) (xs ++ news) → w.grownBy w' v.ownBlock → (v' = .slice none 0 0 ↔ v = .slice none 0 0 ∧ m = 0) → K (a.put o.dst v') w') :
    if Region.wanted o (yielded ops a.tmps) = true then Oper.wp P o a w K Q else E := by
  have hw : Region.wanted o (yielded ops a.tmps) = true := by simp [Region.wanted, hg]
  rw [if_pos hw]
  exact wp_append_own w s x t ho base e i z size bytes ht hi hz hsize hby hzs hsz v n xs hs hown ad m c news hx hl hnews h1 h63 hbytes hbase h

theorem CodeLies.alloc {w : World} {g : Nat} {b : List Int} {c : Nat} (h : CodeLies w g b c) (o : Obj) : CodeLies (w.alloc o) g b c := h.below ((Below.refl _ _).alloc (Nat.le_refl _) _)
theorem CodeLies.drew {w : World} {g : Nat} {b : List Int} {c : Nat} (h : CodeLies w g b c) : CodeLies w.drew g b c := ⟨h.cg, h.lt, h.cap⟩
theorem four_in {w W : World} {B m : Nat} {V : Nat → Int} (h : ∀ q, q < 4 → w.cell? ⟨m, q, none⟩ = some (.int .i64 (V q))) (hb : Below B w W) (hm : m < B) : W.cell? ⟨m, 0, none⟩ = some (.int .i64 (V 0)) ∧ W.cell? ⟨m, 1, none⟩ = some (.int .i64 (V 1)) ∧ W.cell? ⟨m, 2, none⟩ = some (.int .i64 (V 2)) ∧ W.cell? ⟨m, 3, none⟩ = some (.int .i64 (V 3)) :=
  ⟨(dcell hb hm 0).trans (h 0 (by decide)), (dcell hb hm 1).trans (h 1 (by decide)), (dcell hb hm 2).trans (h 2 (by decide)), (dcell hb hm 3).trans (h 3 (by decide))⟩

/-- What is read, what is published, of numbers. -/
def portsL (z : Nat → Int) (n : Nat) : List (Int × Int) := (List.range n).map fun i => (z i % 4, (z i).tdiv 4 % 4)
theorem portsL_len (z : Nat → Int) (n : Nat) : (portsL z n).length = n := by simp [portsL]
theorem portsL_add (z : Nat → Int) (n : Nat) : portsL z (n + 1) = portsL z n ++ [(z n % 4, (z n).tdiv 4 % 4)] := by simp [portsL, List.range_succ]
theorem portsL_ok (z : Nat → Int) (n : Nat) : Ports (portsL z n) := by
  intro x hx
  simp only [portsL, List.mem_map] at hx
  obtain ⟨i, _, rfl⟩ := hx
  simp only
  omega
def inEnv (i0 i1 i2 i3 : Int) : Env := envC none 0 [] [] none 0 [] 0 0 0 i0 i1 i2 i3 0 none 0
theorem outS_env {E E' : Env} (h : ∀ p, inD E p = inD E' p) (l : List (Int × Int)) : ∀ S, outS E l S = outS E' l S := by
  induction l with
  | nil => intro S; rfl
  | cons x l ih => intro S; simp only [outS, h]; exact ih _
def outW (i0 i1 i2 i3 : Int) (l : List (Int × Int)) : St := outS (inEnv i0 i1 i2 i3) l ⟨begL, 5, 6, 7, 8, 100, 0, []⟩
theorem outW_add (i0 i1 i2 i3 : Int) (l : List (Int × Int)) (p q : Int) : outW i0 i1 i2 i3 (l ++ [(p, q)]) = setOut (outW i0 i1 i2 i3 l) q (wrapK 5 (inD (inEnv i0 i1 i2 i3) p)) := outS_add _ _ _ _ _
theorem outW_exec (SA SCa : Option Addr) (SC Cc c f g : Nat) (La : Option Addr) (Lc : Nat) (i0 i1 i2 i3 : Int) (l : List (Int × Int)) (hp : Ports l) (hl : l.length ≤ 16) :
    execP (envC SA SC (symsP true) [7, -1] SCa Cc (outB l ++ [0]) c f g i0 i1 i2 i3 0 La Lc) 101 (outB l ++ [0]) 0 ⟨begL, 5, 6, 7, 8, 100, 0, []⟩ = ({ outW i0 i1 i2 i3 l with left := 100 - (2 * l.length + 1), used := 2 * l.length + 1 }, 0) := by
  have h := outs_exec (envC SA SC (symsP true) [7, -1] SCa Cc (outB l ++ [0]) c f g i0 i1 i2 i3 0 La Lc) l hp [] 101 ⟨begL, 5, 6, 7, 8, 100, 0, []⟩ (by omega) (by simp only []; omega) rfl
  simp only [List.nil_append, List.length_nil] at h
  rw [show ((0 : Nat) : Int) = 0 from rfl] at h
  have e := outS_env (E := envC SA SC (symsP true) [7, -1] SCa Cc (outB l ++ [0]) c f g i0 i1 i2 i3 0 La Lc) (E' := inEnv i0 i1 i2 i3) (fun p => rfl) l ⟨begL, 5, 6, 7, 8, 100, 0, []⟩
  rw [h, e]
  simp only [outW, Nat.zero_add]

/-- The four outputs, as cells of the box. -/
def boxV (S : St) (q : Nat) : Int := if q = 0 then S.o0 else if q = 1 then S.o1 else if q = 2 then S.o2 else S.o3
theorem boxV_set (S : St) (q : Nat) (x : Int) (k : Nat) (hk : k < 4) (hq : q < 4) : boxV (setOut S q x) k = if k = q then x else boxV S k := by
  rcases (show q = 0 ∨ q = 1 ∨ q = 2 ∨ q = 3 by omega) with rfl | rfl | rfl | rfl <;> rcases (show k = 0 ∨ k = 1 ∨ k = 2 ∨ k = 3 by omega) with rfl | rfl | rfl | rfl <;> simp [setOut, boxV]
def inV (i0 i1 i2 i3 : Int) (p : Nat) : Int := if p = 0 then i0 else if p = 1 then i1 else if p = 2 then i2 else i3
theorem inV_is (i0 i1 i2 i3 : Int) (p : Nat) : inD (inEnv i0 i1 i2 i3) p = inV i0 i1 i2 i3 p := by
  rcases p with _ | _ | _ | p <;> simp [inD, inV, inEnv, envC] <;> omega

theorem ret_true {b : Bool} (h : b = true) : Ending.returned (.bool b) = .returned (.bool true) := by rw [h]
def OutRel (w1 : World) (ib wb : Nat) (top : Nat) (z : Nat → Int) (i0 i1 i2 i3 : Int) (bv k : Value) (wr : World) : Prop :=
  ∃ j : Nat, k = .int .i64 j ∧ j ≤ top ∧ wr.ownsRow (wb + 1) 5 1 bv (4 * j) (u8s (outB (portsL z j))) ∧ (∀ q, q < 4 → wr.cell? ⟨wb, q, none⟩ = some (.int .i64 (boxV (outW i0 i1 i2 i3 (portsL z j)) q)) ∧ wr.frozen? ⟨wb, q, none⟩ = false) ∧ Below wb w1 wr ∧ wb < wr.heap.size

set_option maxHeartbeats 8000000 in
set_option maxRecDepth 100000 in
theorem vmOuts_walk (A0 : Option Addr) (len0 cap0 : Nat) (z0 : Nat → Int) (i0 i1 i2 i3 : Int) (w : World) (c0 : Came w A0 len0 cap0 fun j => .int .i64 (z0 j)) (w0 : ∀ j, j < len0 → I64 (z0 j)) (w00 : I64 i0) (w01 : I64 i1) (w02 : I64 i2) (w03 : I64 i3) :
    Calls Tryd.prog 9 #[.slice A0 len0 cap0, .agg #[.int .i64 i0, .int .i64 i1, .int .i64 i2, .int .i64 i3]] w fun e w' => e = .returned (.bool true) ∧ Below w.heap.size w w' := by
  have KN := Lib.hid (fun W => known14_any W)
  have WI := Lib.hid (fun a W => within14_any a 4 (by decide) (by decide) W)
  obtain ⟨y0, hi, hz0, hz1, hz2⟩ := info_parts byteInfo
  have t22 := byteRow
  go_enter Tryd.func9, Tryd.ntmps9
  go_wp2_with (first | (go_at_call 17; refine (KN.out _).mono ?_; rintro e w1 ⟨rfl, hb1⟩; have HB1 := Lib.hid hb1; obtain ⟨o0, o1, o2, o3, -, -, -, -⟩ := box_new4 hb1; clear hb1))
  obtain ⟨wv, hwv⟩ : ∃ x : World, x = w1.alloc (.cells #[.int .i64 5, .int .i64 6, .int .i64 7, .int .i64 8] 23) := ⟨_, rfl⟩
  have hs1 := HB1.out.size
  simp at hs1
  have HB0 := Lib.hid (show Below w.heap.size w wv from by rw [hwv]; exact (((Below.refl _ w).alloc (Nat.le_refl _) _).trans (HB1.out.mono (by simp))).alloc (by omega) _)
  have hzv : wv.heap.size = w1.heap.size + 1 := by rw [hwv]; simp
  have hIN : ∀ p, p < 4 → wv.cell? ⟨w.heap.size, p, none⟩ = some (.int .i64 (inV i0 i1 i2 i3 p)) := by
    intro p hp
    have hb : Below w1.heap.size w1 wv := by rw [hwv]; exact (Below.refl _ _).alloc (Nat.le_refl _) _
    rcases (show p = 0 ∨ p = 1 ∨ p = 2 ∨ p = 3 by omega) with rfl | rfl | rfl | rfl
    · exact (dcell hb (by omega) 0).trans o0
    · exact (dcell hb (by omega) 1).trans o1
    · exact (dcell hb (by omega) 2).trans o2
    · exact (dcell hb (by omega) 3).trans o3
  have HIN := Lib.hid hIN
  have hrel0 : OutRel wv w.heap.size w1.heap.size (min len0 16) z0 i0 i1 i2 i3 (.slice none 0 0) (.int .i64 0) wv := by
    refine ⟨0, rfl, Nat.zero_le _, World.ownsRow_nil _ _ _ _, fun q hq => ?_, Below.refl _ _, by omega⟩
    rcases (show q = 0 ∨ q = 1 ∨ q = 2 ∨ q = 3 by omega) with rfl | rfl | rfl | rfl <;> (rw [hwv]; constructor <;> (go_simp; try rfl))
  have HR0 := Lib.hid hrel0
  have HPT := Lib.hid (show ∀ j, j < len0 → ∃ b off, A0 = some ⟨b, off, none⟩ ∧ b < w.heap.size ∧ wv.cell? ⟨b, off + j, none⟩ = some (.int .i64 (z0 j)) from fun j hj => by
    obtain ⟨b, off, hA, hb, hc⟩ := c0.at_ (by omega)
    exact ⟨b, off, hA, hb, (dcell HB0.out hb _).trans (hc j hj)⟩)
  have hlc := c0.le
  have hcm := c0.max
  rw [← hwv]
  clear hIN hrel0 hwv o0 o1 o2 o3 c0
  go_loopw [5, 7] (fun bv k wr => OutRel wv w.heap.size w1.heap.size (min len0 16) z0 i0 i1 i2 i3 bv k wr) (fun _ k _ => min len0 16 - (intOf k).toNat)
  case atStart => exact HR0.out
  case round =>
    obtain ⟨j, rfl, hj, ho, hq, hb, hlt⟩ := hrel
    have HOJ := Lib.hid ho
    have HQJ := Lib.hid hq
    have HBJ := Lib.hid hb
    by_cases hjl : j < min len0 16
    · have hj1 : (j : Int) < len0 := by omega
      have hj2 : (j : Int) < 16 := by omega
      obtain ⟨pb, po, rfl, hpb, hpc⟩ := HPT.out j (by omega)
      have pc : wr.cell? ⟨pb, po + j, none⟩ = some (.int .i64 (z0 j)) := (dcell hb (by omega) _).trans hpc
      obtain ⟨pn, hpn⟩ := Int.eq_ofNat_of_zero_le (Int.emod_nonneg (z0 j) (show (4 : Int) ≠ 0 by decide))
      obtain ⟨qn, hqn⟩ := Int.eq_ofNat_of_zero_le (Int.emod_nonneg ((z0 j).tdiv 4) (show (4 : Int) ≠ 0 by decide))
      have hpn4 : pn < 4 := by have := Int.emod_lt_of_pos (z0 j) (show (0 : Int) < 4 by decide); omega
      have hqn4 : qn < 4 := by have := Int.emod_lt_of_pos ((z0 j).tdiv 4) (show (0 : Int) < 4 by decide); omega
      have hq4 : IntKind.i64.wrap ((z0 j).tdiv 4) = (z0 j).tdiv 4 := IntWalk.i64_in _ (by
        have hI := w0 j (by omega)
        have h1 := Int.tdiv_eq_ediv (a := z0 j) (b := 4)
        unfold I64 at hI
        rw [h1]
        have h4 : Int.sign 4 = 1 := rfl
        split <;> (try rw [h4]) <;> omega)
      have WP := fun W => WI.out (z0 j) W
      have WQ := fun W => WI.out ((z0 j).tdiv 4) W
      rw [hpn] at WP
      rw [hqn] at WQ
      have HWP := Lib.hid (fun W => show Calls Tryd.prog 21 #[.int .i64 (z0 j), .int .i64 4] W (fun e w' => e = .returned (.int .i64 pn) ∧ w' = W) from (WP W).mono fun e w' ⟨h1, h2⟩ => And.intro h1 h2.symm)
      have HWQ := Lib.hid (fun W => show Calls Tryd.prog 21 #[.int .i64 (IntKind.i64.wrap ((z0 j).tdiv 4)), .int .i64 4] W (fun e w' => e = .returned (.int .i64 qn) ∧ w' = W) from by rw [hq4]; exact (WQ W).mono fun e w' ⟨h1, h2⟩ => And.intro h1 h2.symm)
      have hpnI : (pn : Int) < 4 := by omega
      have hqnI : (qn : Int) < 4 := by omega
      have u8p : IntKind.u8.wrap (pn : Int) = pn := IntWalk.u8_in _ (by omega)
      have u8q : IntKind.u8.wrap (qn : Int) = qn := IntWalk.u8_in _ (by omega)
      have inp : wr.cell? ⟨w.heap.size, pn, none⟩ = some (.int .i64 (inV i0 i1 i2 i3 pn)) := (dcell hb (by omega) _).trans (HIN.out pn hpn4)
      have hkv : portsL z0 (j + 1) = portsL z0 j ++ [((pn : Int), (qn : Int))] := by rw [portsL_add, hpn, hqn]
      have HKV := Lib.hid hkv
      have HW := Lib.hid (fun W => rwrap_any 5 (inV i0 i1 i2 i3 pn) W)
      clear WP WQ hq4 hpn hqn hpc hb hq ho hkv
      go_wp2_with fail
      go_quiet ((go_at_call 21; first | (with_reducible refine Calls.quiet_of_same (HWP.out _)) | (with_reducible refine Calls.quiet_of_same (HWQ.out _))))
      obtain ⟨wq, hwq⟩ : ∃ x : World, x = wr.drewN nq := ⟨_, rfl⟩
      have HOQ := Lib.hid (show wq.ownsRow (w1.heap.size + 1) 5 1 u5 (4 * j) (u8s (outB (portsL z0 j))) from by rw [hwq]; exact HOJ.out)
      have HQQ := Lib.hid (show ∀ q, q < 4 → wq.cell? ⟨w1.heap.size, q, none⟩ = some (.int .i64 (boxV (outW i0 i1 i2 i3 (portsL z0 j)) q)) ∧ wq.frozen? ⟨w1.heap.size, q, none⟩ = false from by rw [hwq]; exact HQJ.out)
      have HBQ := Lib.hid (show Below w1.heap.size wv wq from by rw [hwq]; exact HBJ.out.trans ⟨rfl, rfl, rfl, Nat.le_refl _, fun _ _ => rfl⟩)
      have inq : wq.cell? ⟨w.heap.size, pn, none⟩ = some (.int .i64 (inV i0 i1 i2 i3 pn)) := by rw [hwq]; exact inp
      have hltq : w1.heap.size < wq.heap.size := by rw [hwq]; exact hlt
      rw [← hwq]
      clear hwq inp pc HOJ HQJ HBJ hlt
      go_wp2_with (first | (go_at_call 26; (with_reducible refine (HW.out _).mono ?_); rintro e wx ⟨rfl, rfl⟩) | (at_builtin; refine wpList_append_own _ rfl _ _ 44 rfl (w1.heap.size + 1) 5 y0 _ 1 1 t22 hi hz0 hz1 hz2 rfl (by decide) _ (4 * j) (u8s (outB (portsL z0 j))) rfl (HOQ.out.alloc _) ⟨_, 0, none⟩ 4 4 (u8s [24, (pn : Int), 25, (qn : Int)]) rfl rfl (lit_cells _ [24, (pn : Int), 25, (qn : Int)] _) (u8s_one _) (by unfold maxLen; omega) (by omega) (by simp; omega) ?_; intro v2 u2 hown hgrow hnil; have HO2 := Lib.hid (show u2.ownsRow (w1.heap.size + 1) 5 1 v2 (4 * j + 4) (u8s (outB (portsL z0 j)) ++ u8s [24, (pn : Int), 25, (qn : Int)]) from hown); have HB2 := Lib.hid (grown_below (B := w1.heap.size + 1) ((Below.refl (w1.heap.size + 1) wq).alloc (by omega) _) (HOQ.out.alloc _) hgrow (Nat.le_refl _) (by simp; omega)); have inu := (dcell HB2.out (b := w.heap.size) (by omega) pn).trans inq; have oqu := (dcell HB2.out (b := w1.heap.size) (by omega) qn).trans (HQQ.out qn hqn4).1; have fqu := (dfroz HB2.out (b := w1.heap.size) (by omega) qn).trans (HQQ.out qn hqn4).2; clear hown hgrow hnil))
      go_roundw
      case rel =>
        refine ⟨j + 1, rfl, by omega, ?_, fun q hq => ?_, ?_, ?_⟩
        · rw [HKV.out, outB_add, u8s_app]
          exact own_setFar HO2.out (fun e => by have h : w1.heap.size + 1 ≤ w1.heap.size := (HO2.out.lt _ e).1; omega) _
        · rw [HKV.out, outW_add, inV_is, boxV_set _ _ _ _ hq hqn4]
          have hb2 := HB2.out
          have hlt2 : w1.heap.size < w1.heap.size + 1 := by omega
          refine ⟨?_, froz_set.trans ((dfroz hb2 hlt2 q).trans (HQQ.out q hq).2)⟩
          by_cases e : q = qn
          · subst e
            rw [if_pos rfl]
            exact cell_set_same oqu
          · rw [if_neg e]
            exact (cell_set_ne (.inr (Ne.symm e))).trans ((dcell hb2 hlt2 q).trans (HQQ.out q hq).1)
        · exact (HBQ.out.trans (HB2.out.mono (by omega))).setCell (Nat.le_refl _) _
        · have := HB2.out.size
          simp; omega
      case measure => simp [intOf]; omega
    · have hje : j = min len0 16 := by omega
      have hnot : ¬ (j : Int) < len0 ∨ ((j : Int) < len0 ∧ ¬ (j : Int) < 16) := by omega
      obtain ⟨wq, hwq⟩ : ∃ x : World, x = wr := ⟨_, rfl⟩
      subst hwq
      obtain ⟨code, hcode⟩ : ∃ c, c = outB (portsL z0 j) ++ [0] := ⟨_, rfl⟩
      have hp16 : (portsL z0 j).length ≤ 16 := by rw [portsL_len]; omega
      have hlen : code.length = 4 * j + 1 := by rw [hcode]; simp [outB_len, portsL_len]
      have RN := Lib.hid (fun (u : World) (g cc : Nat) (h : CodeLies u g code cc) => show Calls Tryd.prog 29 #[.slice (some ⟨g, 0, none⟩) (4 * j + 1) cc, .agg #[.int .i64 (inV i0 i1 i2 i3 0), .int .i64 (inV i0 i1 i2 i3 1), .int .i64 (inV i0 i1 i2 i3 2), .int .i64 (inV i0 i1 i2 i3 3)], .int .i64 0] u fun e w' => Below u.heap.size u w' ∧ ∃ v, e = .returned (.tuple #[v, .agg #[.int .i64 (boxV (outW i0 i1 i2 i3 (portsL z0 j)) 0), .int .i64 (boxV (outW i0 i1 i2 i3 (portsL z0 j)) 1), .int .i64 (boxV (outW i0 i1 i2 i3 (portsL z0 j)) 2), .int .i64 (boxV (outW i0 i1 i2 i3 (portsL z0 j)) 3)], .int .i64 ((2 * j + 1 : Nat) : Int), .int .i64 0, .bool true]) from by
        subst hcode
        have h := run14_any g _ cc i0 i1 i2 i3 0 u h (outs_fine _ _ (portsL_ok z0 j) hp16) (fun SA SC Ca Cc f La Lc => outW_exec SA Ca SC Cc cc f g La Lc i0 i1 i2 i3 _ (portsL_ok z0 j) hp16)
        rw [hlen] at h
        simp only [portsL_len] at h
        exact h.mono fun e w' ⟨h1, v, h2, _⟩ => ⟨h1, v, h2⟩)
      have hlz : w.heap.size < w1.heap.size + 1 := by omega
      obtain ⟨n0, n1, n2, n3⟩ := four_in HIN.out (hb.mono (Nat.le_refl _)) (show w.heap.size < w1.heap.size by omega)
      have HIQ := Lib.hid (show ∀ q, q < 4 → wq.cell? ⟨w.heap.size, q, none⟩ = some (.int .i64 (inV i0 i1 i2 i3 q)) from fun q hq => (dcell hb (by omega) q).trans (HIN.out q hq))
      have hu8 : u8s code = u8s (outB (portsL z0 j)) ++ u8s [0] := by rw [hcode, u8s_app]
      have HU8 := Lib.hid hu8
      have HJE := Lib.hid hje
      have hj16 : j ≤ 16 := by omega
      clear hb ho hq hu8 hcode hp16 hje
      have HOQ := HOJ
      have hwa : w.heap.size < wq.heap.size := by omega
      have hwb : ¬ w.heap.size = wq.heap.size := by omega
      have hwc : ¬ w.heap.size = wq.heap.size + 1 := by omega
      have HNE := Lib.hid (show ∀ b, wq.heap.size ≤ b → some b ≠ u5.ownBlock from fun b hb e => by have := (HOJ.out.lt b e.symm).2; omega)
      clear hj hjl
      rcases hnot with hn1 | ⟨hn1, hn2⟩
      all_goals
        go_wp2_with fail
        go_cut [11, 12, 13, 14] (fun c11 c12 c13 c14 wx => ∃ g : Nat, c11 = .pointer (some ⟨g, 0, none⟩) ∧ c12 = .int .i64 ((2 * j + 1 : Nat) : Int) ∧ c13 = .int .i64 0 ∧ c14 = .bool true ∧ (wx.cell? ⟨g, 0, none⟩ = some (.int .i64 (boxV (outW i0 i1 i2 i3 (portsL z0 j)) 0)) ∧ wx.cell? ⟨g, 1, none⟩ = some (.int .i64 (boxV (outW i0 i1 i2 i3 (portsL z0 j)) 1)) ∧ wx.cell? ⟨g, 2, none⟩ = some (.int .i64 (boxV (outW i0 i1 i2 i3 (portsL z0 j)) 2)) ∧ wx.cell? ⟨g, 3, none⟩ = some (.int .i64 (boxV (outW i0 i1 i2 i3 (portsL z0 j)) 3))) ∧ Below (w1.heap.size + 1) wq wx)
        case first =>
          go_region_law (first
            | (refine step_append_own rfl _ _ 44 rfl (w1.heap.size + 1) 5 y0 _ 1 1 t22 hi hz0 hz1 hz2 rfl (by decide) u5 (4 * j) (u8s (outB (portsL z0 j))) rfl (by repeat (first | (with_reducible exact HOQ.out) | (with_reducible refine World.ownsRow.alloc ?_ _) | (with_reducible refine own_dr ?_))) ⟨_, 0, none⟩ 1 1 (u8s [0]) rfl rfl (one_cellB (by go_simp)) (u8s_one _) (by unfold maxLen; omega) (by omega) (by first | omega | (simp; done) | (simp; omega)) ?_; intro v2 u2 hown hgrow hnil; have HO2 := Lib.hid (show u2.ownsRow (w1.heap.size + 1) 5 1 v2 (4 * j + 1) (u8s code) from by rw [HU8.out]; exact hown); have z2 := hgrow.size; (try simp at z2); have HB2 := Lib.hid (grown_below (B := w1.heap.size + 1) (a := wq) (v := u5) (by first | exact (Below.refl _ wq).drew.alloc (by first | omega | (simp; done) | (simp; omega)) _ | exact ((Below.refl _ wq).drew.alloc (by first | omega | (simp; done) | (simp; omega)) _).alloc (by first | omega | (simp; done) | (simp; omega)) _) (by first | exact HOQ.out.alloc _ | exact (HOQ.out.alloc _).alloc _) hgrow (Nat.le_refl _) (by first | omega | (simp; done) | (simp; omega))); obtain ⟨g2, cc2, rfl, hcl⟩ := CodeLies.of_own (b := code) HO2.out (by omega); have HCL := Lib.hid hcl; obtain ⟨m0, m1, m2, m3⟩ := four_in HIQ.out HB2.out hlz; have hw2 : w.heap.size < u2.heap.size := (by have := HB2.out.size; first | omega | (simp at this; omega)); have hw3 : ¬ w.heap.size = u2.heap.size := (by omega); (try have g0c := fun o => World.cell?_of_block (a := ⟨wq.heap.size, o, none⟩) (hgrow.block (wq.heap.size) (by first | omega | (simp; done) | (simp; omega)) (HNE.out _ (by first | omega | (simp; done) | (simp; omega))))); (try have g0f := fun o => World.frozen?_of_block (a := ⟨wq.heap.size, o, none⟩) (hgrow.block (wq.heap.size) (by first | omega | (simp; done) | (simp; omega)) (HNE.out _ (by first | omega | (simp; done) | (simp; omega))))); (try have g1c := fun o => World.cell?_of_block (a := ⟨wq.heap.size + 1, o, none⟩) (hgrow.block (wq.heap.size + 1) (by first | omega | (simp; done) | (simp; omega)) (HNE.out _ (by first | omega | (simp; done) | (simp; omega))))); (try have g1f := fun o => World.frozen?_of_block (a := ⟨wq.heap.size + 1, o, none⟩) (hgrow.block (wq.heap.size + 1) (by first | omega | (simp; done) | (simp; omega)) (HNE.out _ (by first | omega | (simp; done) | (simp; omega))))); clear hown hgrow hnil hcl)
            | (go_simp; go_at_call 29; (with_reducible refine (RN.out _ _ _ (by repeat (first | (with_reducible exact HCL.out) | (with_reducible refine CodeLies.alloc ?_ _) | (with_reducible refine CodeLies.drew ?_)))).mono ?_); rintro e w3 ⟨hb3, v3, rfl⟩; have z3 := hb3.size; (try simp at z3); have HB3 := Lib.hid (show Below (w1.heap.size + 1) wq w3 from Below.trans (by repeat (first | (with_reducible exact HB3.out) | (with_reducible exact HB2.out) | (with_reducible exact Below.refl _ _) | (with_reducible refine Below.setCell ?_ (by first | omega | (simp; done) | (simp; omega)) _) | (with_reducible refine Below.drew ?_) | (with_reducible refine Below.alloc ?_ (by first | omega | (simp; done) | (simp; omega)) _))) (hb3.mono (by first | omega | (simp; done) | (simp; omega)))); (try have p3 := dcell hb3 (b := wq.heap.size) (by first | omega | (simp; done) | (simp; omega))); (try have p3f := dfroz hb3 (b := wq.heap.size) (by first | omega | (simp; done) | (simp; omega))); (try have p4 := dcell hb3 (b := wq.heap.size + 1) (by first | omega | (simp; done) | (simp; omega))); (try have p4f := dfroz hb3 (b := wq.heap.size + 1) (by first | omega | (simp; done) | (simp; omega))); (try have p5 := dcell hb3 (b := u2.heap.size) (by first | omega | (simp; done) | (simp; omega))); (try have p5f := dfroz hb3 (b := u2.heap.size) (by first | omega | (simp; done) | (simp; omega))); clear hb3))
          all_goals (try go_wp2_with fail)
          all_goals go_meet
          all_goals refine ⟨_, rfl, rfl, rfl, rfl, ⟨by go_simp, by go_simp, by go_simp, by go_simp⟩, ?_⟩
          all_goals repeat (first | (with_reducible exact HB3.out) | (with_reducible exact HB2.out) | (with_reducible exact Below.refl _ _) | (with_reducible refine Below.setCell ?_ (by first | omega | (simp; done) | (simp; omega)) _) | (with_reducible refine Below.drew ?_) | (with_reducible refine Below.alloc ?_ (by first | omega | (simp; done) | (simp; omega)) _))
        case rest =>
          obtain ⟨g5, rfl, rfl, rfl, rfl, ⟨q0, q1, q2, q3⟩, hb5⟩ := hcut
          obtain ⟨r0, r1, r2, r3⟩ := four_in (fun q hq => (HQJ.out q hq).1) hb5 (show w1.heap.size < w1.heap.size + 1 by omega)
          obtain ⟨b0, hb0⟩ : ∃ x, boxV (outW i0 i1 i2 i3 (portsL z0 j)) 0 = x := ⟨_, rfl⟩
          rw [hb0] at q0 r0
          obtain ⟨b1, hb1⟩ : ∃ x, boxV (outW i0 i1 i2 i3 (portsL z0 j)) 1 = x := ⟨_, rfl⟩
          rw [hb1] at q1 r1
          obtain ⟨b2, hb2⟩ : ∃ x, boxV (outW i0 i1 i2 i3 (portsL z0 j)) 2 = x := ⟨_, rfl⟩
          rw [hb2] at q2 r2
          obtain ⟨b3, hb3⟩ : ∃ x, boxV (outW i0 i1 i2 i3 (portsL z0 j)) 3 = x := ⟨_, rfl⟩
          rw [hb3] at q3 r3
          have E4 := eq4_same b0 b1 b2 b3
          have HB5 := Lib.hid (show Below w.heap.size w wc from HB0.out.trans ((HBJ.out.mono (by omega)).trans (hb5.mono (by omega))))
          have hje := HJE.out
          clear hb0 hb1 hb2 hb3 hb5 HQJ HBJ HOJ HOQ HIQ HU8 RN HIN HR0 HPT
          go_wp2_with fail
          go_ret
          exact ⟨ret_true (by simp; omega), HB5.out⟩
end Go.Proofs.YtngobbbinacomaaDoor
