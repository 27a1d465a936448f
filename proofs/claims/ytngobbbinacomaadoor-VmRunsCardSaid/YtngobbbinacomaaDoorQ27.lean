/- Chapter 12's Code: a function of numbers. -/
import Derived.Test.YtngobbbinacomaaDoorQ23
import Derived.Test.YtngobbbinacomaaDoorQ24
import Derived.Test.YtngobbbinacomaaDoorQ26
namespace Go.Proofs.YtngobbbinacomaaDoor
open Go.RowKit Go.Proofs.YtngobbbinacomaaDoor.c11 Go.Proofs.YtngobbbinacomaaDoor.c10
set_option linter.unusedVariables false
set_option linter.unusedSimpArgs false
attribute [local go_sem ↓] Go.wp_at_zero Go.wp_at_succ
theorem spotInfo : (Tryd.prog.info? 96).map (fun i => (i.zero, i.size, i.bytes)) = some (some (.agg #[.int .i64 0, .slice none 0 0]), 2, 32) := by kernel_rfl
theorem spotTy : Tryd.prog.underlying 91 = some (.slice 96) := by kernel_rfl
theorem own_differ {w : World} {base base' : Nat} {e e' : TypeId} {size size' n n' : Nat} {v v' : Value} {xs xs' : List Value} (h : w.ownsRow base e size v n xs) (h' : w.ownsRow base' e' size' v' n' xs') (hT : e ≠ e') : v.ownBlock = none ∨ v.ownBlock ≠ v'.ownBlock := by
  rcases h.2 with ⟨rfl, _⟩ | ⟨g, cap, cur, rfl, _, hh, _⟩
  · exact .inl rfl
  · exact .inr fun e => owns_other h' hh hT (by rw [← e]; rfl)
theorem own_keepT {w w' : World} {B base : Nat} {e : TypeId} {size n : Nat} {v : Value} {xs : List Value} (h : w.ownsRow base e size v n xs) (hb : BelowT B w w') (hT : e ≠ 5) : w'.ownsRow base e size v n xs :=
  ⟨h.1, h.2.elim .inl fun ⟨g, cap, cur, h1, h2, h3, h4⟩ => .inr ⟨g, cap, cur, h1, h2, hb.keep g cur e (0, 0) h3 hT, h4⟩⟩
theorem own_bel {w w' : World} {base : Nat} {e : TypeId} {size n : Nat} {v : Value} {xs : List Value} (h : w.ownsRow base e size v n xs) (hb : Below w.heap.size w w') : w'.ownsRow base e size v n xs :=
  ⟨h.1, h.2.elim .inl fun ⟨g, cap, cur, h1, h2, h3, h4⟩ => .inr ⟨g, cap, cur, h1, h2, (hb.block g (heap_some_lt h3)).trans h3, h4⟩⟩
theorem SpotD.Ok.keep {w w' : World} {x : SpotD} (h : x.Ok w) (hk : KeptRow w x.A x.st → KeptRow w' x.A x.st) : x.Ok w' := ⟨h.le, h.max, hk h.kept⟩
theorem spots_at {w : World} {base : Nat} {e : TypeId} {P : Option Addr} {c : Nat} {ss : List SpotD} (ho : w.ownsRow base e 2 (.slice P ss.length c) ss.length (ss.flatMap SpotD.cells)) (hk : ∀ x ∈ ss, x.Ok w) : SpotsAt w w.heap.size P (ss.map SpotD.plain) := by
  refine ⟨fun h0 => ?_⟩
  have hr := Row.of_own ho
  obtain ⟨b, off, hP, hb, hcc⟩ := hr.2 (by simpa using h0)
  refine ⟨b, off, hP, hb, fun i x hi => ?_⟩
  rw [List.getElem?_map] at hi
  cases hx : ss[i]? with
  | none => rw [hx] at hi; cases hi
  | some y =>
    rw [hx] at hi
    obtain rfl := Option.some.inj hi
    have h := fun j u (hj : j < 2) (hu : (SpotD.cells y)[j]? = some u) => hcc (i * 2 + j) u ((flat_get SpotD.cells 2 SpotD.cells_length ss i j y hx hj).trans hu)
    simp only [← Nat.add_assoc] at h
    have ho := hk y (List.mem_of_getElem? hx)
    exact ⟨y.A, y.c, h 0 _ (by decide) rfl, h 1 _ (by decide) rfl, ho.le, ho.max, ho.kept.row⟩
theorem spot_cells (w : World) (n : Nat) (v : Value) (t : TypeId) : ∀ (j : Nat) (u : Value), ([.int .i64 (n : Int), v] : List Value)[j]? = some u → (w.alloc (.cells #[.int .i64 (n : Int), v] t)).cell? ((⟨w.heap.size, 0, none⟩ : Addr).add j) = some u := by
  intro j u hu
  rw [Addr.add_lit, World.cell?_alloc_new]
  have hj : j < 2 := by have := (List.getElem?_eq_some_iff.1 hu).1; simpa using this
  rcases (show j = 0 ∨ j = 1 by omega) with rfl | rfl <;> simpa using hu
theorem spot_one (n : Nat) (S : Option Addr) (k c : Nat) : ∀ u ∈ ([.int .i64 (n : Int), .slice S k c] : List Value), u.oneCell' = true := by
  intro u hu
  simp at hu
  rcases hu with rfl | rfl <;> rfl
theorem alloc_bel (w : World) (o : Obj) : Below w.heap.size w (w.alloc o) := (Below.refl _ _).alloc (Nat.le_refl _) _
theorem lt_alloc {w : World} {b : Nat} (h : b < w.heap.size) (o : Obj) : b < (w.alloc o).heap.size := by simp; omega
theorem le_alloc {w : World} {b : Nat} (h : b ≤ w.heap.size) (o : Obj) : b ≤ (w.alloc o).heap.size := by simp; omega
theorem five_grown {W W' : World} {b : Nat} {row : Option Nat} {a0 a1 a2 a3 a4 : Int} (h : Five W b a0 a1 a2 a3 a4) (hg : W.grownBy W' row) (hlt : b < W.heap.size) (hne : some b ≠ row) : Five W' b a0 a1 a2 a3 a4 := by
  have hb := hg.block b hlt hne
  obtain ⟨c0, c1, c2, c3, c4, f0, f1, f2, f3, f4⟩ := h
  exact ⟨(World.cell?_of_block (a := ⟨b, 0, none⟩) hb).trans c0, (World.cell?_of_block (a := ⟨b, 1, none⟩) hb).trans c1, (World.cell?_of_block (a := ⟨b, 2, none⟩) hb).trans c2, (World.cell?_of_block (a := ⟨b, 3, none⟩) hb).trans c3, (World.cell?_of_block (a := ⟨b, 4, none⟩) hb).trans c4, (World.frozen?_of_block (a := ⟨b, 0, none⟩) hb).trans f0, (World.frozen?_of_block (a := ⟨b, 1, none⟩) hb).trans f1, (World.frozen?_of_block (a := ⟨b, 2, none⟩) hb).trans f2, (World.frozen?_of_block (a := ⟨b, 3, none⟩) hb).trans f3, (World.frozen?_of_block (a := ⟨b, 4, none⟩) hb).trans f4⟩
/-- What an append of a spot leaves. -/
theorem code_app {w wx w8 : World} {o : Obj} {B n nb : Nat} {v vb : Value} {xs ys : List Value} (hg : (wx.alloc o).grownBy w8 v.ownBlock) (hos : wx.ownsRow B 96 2 v n xs) (hob : wx.ownsRow B 5 1 vb nb ys) (hB : B ≤ wx.heap.size) (hw : Below B w wx) :
    Below B w w8 ∧ w8.ownsRow B 5 1 vb nb ys ∧ (∀ A zs, KeptRow wx A zs → KeptRow w8 A zs) ∧ (∀ (b : Nat) (a0 a1 a2 a3 a4 : Int), Five wx b a0 a1 a2 a3 a4 → b < wx.heap.size → some b ≠ v.ownBlock → Five w8 b a0 a1 a2 a3 a4) ∧ (∀ x : SpotD, x.Ok wx → x.Ok w8) := by
  have hk : ∀ A zs, KeptRow wx A zs → KeptRow w8 A zs := fun A zs h => (h.below (alloc_bel _ _)).grown (hos.alloc _) hg (by decide)
  exact ⟨grown_below (hw.alloc hB _) (hos.alloc _) hg (Nat.le_refl _) (le_alloc hB _), (hob.alloc _).kept hg (own_differ (hob.alloc o) (hos.alloc o) (by decide)), hk, fun b a0 a1 a2 a3 a4 h hl hne => five_grown (five_below h (alloc_bel _ _) hl) hg (lt_alloc hl _) hne, fun x h => h.keep (hk _ _)⟩
theorem bytes_lit (w : World) (x : Int) (t : TypeId) : ∀ (j : Nat) (u : Value), (u8s [x])[j]? = some u → (w.alloc (.cells #[.int .u8 x] t)).cell? ((⟨w.heap.size, 0, none⟩ : Addr).add j) = some u := by
  intro j u hu
  rw [Addr.add_lit, World.cell?_alloc_new]
  have hj : j < 1 := by have := (List.getElem?_eq_some_iff.1 hu).1; simpa [u8s] using this
  rcases (show j = 0 by omega) with rfl
  simpa [u8s] using hu
/-- What is made so far. -/
def CodeRel (w1 : World) (B : Nat) (cells : List CellD) (funcs : Int) (n : Nat) (b s spots i : Value) (wr : World) : Prop :=
  ∃ (j : Nat) (ss : List SpotD) (bs st : List Int) (SA : Option Addr) (SC : Nat), i = .int .i64 j ∧ j ≤ n ∧ Made cells funcs (ss.map SpotD.plain) bs st ∧ bs.length ≤ 99 ∧ s = .slice SA st.length SC ∧ st.length ≤ SC ∧ SC ≤ 9223372036854775807 ∧ KeptRow wr SA st ∧ (∀ x ∈ ss, x.Ok wr) ∧
    wr.ownsRow B 5 1 b bs.length (u8s bs) ∧ wr.ownsRow B 96 2 spots ss.length (ss.flatMap SpotD.cells) ∧ Below B w1 wr
/-- What Code leaves. -/
def CodeBack (w : World) (cells : List CellD) (funcs : Int) (e : Ending) (w' : World) : Prop :=
  (∃ (v : Value) (sp : List (Nat × List Int)) (bs st : List Int), e = .returned v ∧ Made cells funcs sp bs st ∧ bs.length ≤ 99 ∧ w'.ownsRow w.heap.size 5 1 v (bs.length + 1) (u8s (bs ++ [0]))) ∧ Below w.heap.size w w'
set_option maxHeartbeats 8000000 in
set_option maxRecDepth 100000 in
theorem code12_any (A : Option Addr) (c : Nat) (cells : List CellD) (hcl : 0 < cells.length ∧ cells.length ≤ 200) (hkinds : KindsOk cells) (hc : cells.length ≤ c) (hcm : c ≤ 9223372036854775807) (NA : Option Addr) (nl nc : Nat) (z : Nat → Int) (w : World) (hr : Row w w.heap.size 6 A cells.length (cellRow cells))
    (hns : Came w NA nl nc fun j => .int .i64 (z j)) (hz : ∀ j, j < nl → I64 (z j)) (hnl : nl ≤ 1000) (funcs : Nat) (hf : funcs ≤ 2) :
    Calls Tryd.prog 36 #[.slice A cells.length c, .slice NA nl nc, .int .i64 funcs] w (CodeBack w cells funcs) := by
  obtain ⟨p0, sti, stz0, stz1, stz2⟩ := info_parts spotInfo
  have tsp := spotTy
  obtain ⟨y0, hi, hz0, hz1, hz2⟩ := info_parts byteInfo
  have t22 := byteRow
  have HR := Lib.hid hr
  have HNS := Lib.hid hns
  have hncle := hns.le
  have hncm := hns.max
  clear hr hns
  go_enter Tryd.func36, Tryd.ntmps36
  go_wp2_with fail
  go_loopw [7, 8, 9, 10] (fun b s spots i wr => CodeRel w w.heap.size cells funcs nl b s spots i wr) (fun _ _ _ i _ => nl - (intOf i).toNat)
  case atStart => exact ⟨0, [], [], [], none, 0, rfl, Nat.zero_le _, Made.nil, by decide, rfl, Nat.le_refl _, by decide, .inl rfl, by simp, World.ownsRow_nil _ _ _ _, World.ownsRow_nil _ _ _ _, Below.refl _ _⟩
  case round =>
    obtain ⟨j, ss, bs, st, SA, SC, rfl, hj, hmade, hbl, rfl, hsc, hscm, hks, hss, hob, hosp, hbw⟩ := hrel
    obtain ⟨BA, bc, rfl, hbc, hbm⟩ := own_slice hob
    obtain ⟨PA, pc, rfl, hpc, hpm⟩ := own_slice hosp
    have hok := hmade.ok hkinds
    have hsl : ss.length ≤ 99 := by have := hok.len; simp at this; omega
    have hst8 := hok.st8
    have HM := Lib.hid hmade
    have HK := Lib.hid hks
    have HSS := Lib.hid hss
    have HOB := Lib.hid hob
    have HOS := Lib.hid hosp
    have HBW := Lib.hid hbw
    have hwz := hbw.size
    by_cases hgo : j < nl ∧ bs.length < 90
    · obtain ⟨hjl, hb90⟩ := hgo
      have hjl' : (j : Int) < nl := by omega
      have hb90' : (bs.length : Int) < 90 := by omega
      have hncI : (nl : Int) ≤ nc := by omega
      obtain ⟨nb, no, hNA, hnb, hnc⟩ := HNS.out.at_ (by omega)
      have ec : wr.cell? ⟨nb, no + j, none⟩ = some (.int .i64 (z j)) := (dcell hbw hnb _).trans (hnc j hjl)
      have PK := pick_any A c cells (z j) SA SC st funcs bs.length PA pc (ss.map SpotD.plain) wr (hz j hjl) ((HR.out.below hbw).more hwz) hc hcl hks.row hsc hst8 hok.kinds hf (by omega) (spots_at hosp hss) (by simpa using hpc) (by rw [List.length_map]; omega) (fun x hx => by have := hok.at_ x hx; omega)
      rw [List.length_map] at PK
      have HPK := Lib.hid PK
      subst hNA
      clear hmade hks hss hob hosp hbw hnc PK hok
      go_wp2_with fail
      refine HPK.out.mono ?_
      rintro e w2 ⟨⟨s, a, N, rfl, hpo⟩, hb2⟩
      have HPO := Lib.hid hpo
      obtain ⟨an, rfl⟩ : ∃ an : Nat, a = an := ⟨a.toNat, by have := hpo.a0; omega⟩
      obtain ⟨out, hd⟩ := hpo.ok
      rw [Int.toNat_natCast] at hd
      have HD := Lib.hid hd
      have hwz2 := hb2.size
      obtain ⟨wo, hwo⟩ : ∃ x : World, x = w2.alloc (.cells #[.int .i64 0, .int .i64 0, .int .i64 s, .int .i64 an, .int .i64 N] 67) := ⟨_, rfl⟩
      have hbo : Below w2.heap.size w2 wo := by rw [hwo]; exact (Below.refl _ w2).alloc (Nat.le_refl _) _
      have HFO := Lib.hid (show Five wo w2.heap.size 0 0 s an N from by rw [hwo]; constructor <;> go_simp)
      have hob : w2.heap.size < wo.heap.size := by rw [hwo]; simp
      have HB2 := Lib.hid (show Below wr.heap.size wr wo from hb2.trans (hbo.mono hwz2))
      have hwzo : wr.heap.size ≤ wo.heap.size := by omega
      have FI := fits_any A c cells hc hcm N 0 0 an wo (((HR.out.below HBW.out).more hwz).below HB2.out |>.more hwzo) SA SC st out s (by have := hpo.s0; omega) (by have := hpo.s29; omega) hpo.bears (HK.out.below HB2.out).row hsc hst8 hd (by
        rcases hpo.up with h | h | h | h | h | h
        · exact .inl h
        · exact .inr (.inl h)
        · exact .inr (.inr (.inl h))
        · exact .inr (.inr (.inr (.inl h)))
        · exact .inr (.inr (.inr (.inr (.inl h))))
        · exact .inr (.inr (.inr (.inr (.inr (Nat.le_trans (h out (by rw [Int.toNat_natCast]; exact hd)) hst8))))))
      have HFI := Lib.hid FI
      have HWO := Lib.hid hwo
      clear FI hpo hd hb2 ec hbo hwo
      by_cases hl8 : out.length ≤ 8
      · go_wp2_with fail
        rw [← HWO.out]
        refine HFI.out.mono ?_
        rintro e w3 ⟨hb3, hif⟩
        have hob3 : w2.heap.size < w3.heap.size := Nat.lt_of_lt_of_le hob hb3.size
        have HF3 := Lib.hid (five_below HFO.out hb3 hob)
        rw [if_pos hl8] at hif
        obtain ⟨R, rc, rfl, hrc1, hrc2, hor⟩ := hif
        have HBX := Lib.hid (show Below wr.heap.size wr w3 from HB2.out.trans (hb3.mono hwzo))
        have HOX := Lib.hid (own_bel HOS.out HBX.out)
        have HNB := Lib.hid (show some w2.heap.size ≠ (Value.slice PA ss.length pc).ownBlock from fun e => by have := (HOS.out.lt _ e.symm).2; omega)
        have hne1 : (3 : TypeId) ≠ 96 := by decide
        have hne3 : (96 : TypeId) ≠ 5 := by decide
        have hq3 : bs.length ≤ 50000 := by omega
        have hne2 : (5 : TypeId) ≠ 96 := by decide
        have hq1 : ss.length + 1 ≤ maxLen := by unfold maxLen; omega
        have hq2 : (ss.length + 1) * 32 ≤ 140737488355328 := by omega
        have HBB := Lib.hid (own_bel HOB.out HBX.out)
        have HSX := Lib.hid (show ∀ x ∈ ss, x.Ok w3 from fun x hx => (HSS.out x hx).keep fun h => h.below HBX.out)
        have HKX := Lib.hid (HK.out.below HBX.out)
        have HRX := Lib.hid (KeptRow.of_own hor)
        have hxz : w.heap.size ≤ w3.heap.size := by have := HBX.out.size; omega
        have HBWX := Lib.hid (show Below w.heap.size w w3 from HBW.out.trans (HBX.out.mono hwz))
        have hbm' := hbm
        unfold maxLen at hbm'
        have hpm' := hpm
        unfold maxLen at hpm'
        clear hb3 hor
        go_wp2_with (first
          | (at_builtin; refine wpList_append_own _ rfl _ _ 91 rfl w.heap.size 96 p0 _ 2 32 tsp sti stz0 stz1 stz2 rfl (by decide) _ ss.length (ss.flatMap SpotD.cells) rfl (HOX.out.alloc _) ⟨_, 0, none⟩ 1 1 [.int .i64 (bs.length : Int), .slice SA st.length SC] rfl rfl (spot_cells _ _ _ _) (spot_one _ _ _ _) hq1 hq2 (le_alloc hxz _) ?_; intro v8 w8 hown hgrow hnil; have HO8 := Lib.hid hown; have HC := Lib.hid (code_app hgrow HOX.out HBB.out hxz HBWX.out); have HB8 := Lib.hid HC.out.1; have HBB8 := Lib.hid HC.out.2.1; have HK8 := Lib.hid (HC.out.2.2.1 _ _ HKX.out); have HR8 := Lib.hid (HC.out.2.2.1 _ _ HRX.out); have hz8 := HB8.out.size; obtain ⟨c0, c1, c2, c3, c4, f0, f1, f2, f3, f4⟩ := HC.out.2.2.2.1 _ _ _ _ _ _ HF3.out hob3 HNB.out; clear hown hgrow hnil)
          | (go_at_call 33; refine (tbytes_any _ bs.length w.heap.size bs 0 0 s an N _ hq3 HBB8.out hz8).mono ?_; rintro e w9 ⟨⟨v9, rfl, ho9⟩, hb9⟩; have HO9 := Lib.hid ho9; have HS9 := Lib.hid (own_keepT HO8.out hb9 hne3); have HB9 := Lib.hid (HB8.out.trans hb9.below); have HK9 := Lib.hid (HK8.out.belowT hb9); have HR9 := Lib.hid (HR8.out.belowT hb9); have HSS9 := Lib.hid (show ∀ x ∈ ss, x.Ok w9 from fun x hx => (HC.out.2.2.2.2 x (HSX.out x hx)).keep fun h => h.belowT hb9); clear ho9 hb9))
        go_roundw
        case rel =>
          have hle := encB_pos s an N
          refine ⟨j + 1, ss ++ [⟨bs.length, st, SA, SC⟩], bs ++ encB s an N, out, R, rc, rfl, by omega, ?_, by simp; omega, (by first | rfl | simp), hrc1, hrc2, HR9.out, fun x hx => ?_, by rw [List.length_append]; exact HO9.out, ?_, HB9.out⟩
          · rw [List.map_append]
            exact Made.snoc HM.out HPO.out (by rw [Int.toNat_natCast]; exact HD.out) hl8
          · rcases List.mem_append.1 hx with hx | hx
            · exact HSS9.out x hx
            · simp at hx; subst hx; exact ⟨hsc, hscm, HK9.out⟩
          · rw [List.length_append, List.flatMap_append]
            exact HS9.out
        case measure => simp [intOf]; omega
      · go_wp2_with fail
        rw [← HWO.out]
        refine HFI.out.mono ?_
        rintro e w3 ⟨hb3, hif⟩
        have hob3 : w2.heap.size < w3.heap.size := Nat.lt_of_lt_of_le hob hb3.size
        have HF3 := Lib.hid (five_below HFO.out hb3 hob)
        rw [if_neg hl8] at hif
        subst hif
        have hst7 : 0 < st.length := by
          rcases Nat.eq_zero_or_pos st.length with h | h
          · have hst := List.eq_nil_of_length_eq_zero h
            have hd := HD.out
            rcases HPO.out.up with h1 | h1 | h1 | h1 | h1 | h1
            all_goals first
              | (have := h1 out (by rw [Int.toNat_natCast]; exact hd); omega)
              | (exfalso; subst h1; subst hst; simp [doesU, does0, takesN] at hd; subst hd; exact hl8 (by simp))
              | (exfalso; subst h1; subst hst; simp [doesU, does0, takesN] at hd)
          · exact h
        have hst7' : ((st.length : Int) == 0) = false := by rw [beq_eq_false_iff_ne]; omega
        have hne : st ≠ [] := by intro e; rw [e] at hst7; exact absurd hst7 (by decide)
        have hdr := po_drop (cells := cells) (funcs := funcs) (at_ := (bs.length : Int)) (sp := ss.map SpotD.plain) hne
        have HDR := Lib.hid hdr
        have hwz3 := hb3.size
        have hdl : st.dropLast.length ≤ 8 := by simp; omega
        have hwz4 : wr.heap.size ≤ w3.heap.size := by omega
        have HB3 := Lib.hid (show Below wr.heap.size wr w3 from HB2.out.trans (hb3.mono hwzo))
        have FJ := fun u (hu : Below wr.heap.size wr u) => fits_any A c cells hc hcm 0 0 0 0 u (((HR.out.below HBW.out).more hwz).below hu |>.more hu.size) SA SC st st.dropLast 22 (by decide) (by decide) hdr.1.bears (HK.out.below hu).row hsc hst8 hdr.2 (.inr (.inr (.inr (.inr (.inr hdl)))))
        have HFJ := Lib.hid FJ
        obtain ⟨c0, c1, c2, c3, c4, f0, f1, f2, f3, f4⟩ := HF3.out
        clear FJ hdr hb3 hne
        go_wp2_with fail
        obtain ⟨wd, hwd⟩ : ∃ x : World, x = (((((w3.setCell ⟨w2.heap.size, 0, none⟩ (.int .i64 0)).setCell ⟨w2.heap.size, 1, none⟩ (.int .i64 0)).setCell ⟨w2.heap.size, 2, none⟩ (.int .i64 22)).setCell ⟨w2.heap.size, 3, none⟩ (.int .i64 0)).setCell ⟨w2.heap.size, 4, none⟩ (.int .i64 0)) := ⟨_, rfl⟩
        have HBD := Lib.hid (show Below wr.heap.size wr wd from by rw [hwd]; exact ((((HB3.out.setCell hwz2 _).setCell hwz2 _).setCell hwz2 _).setCell hwz2 _).setCell hwz2 _)
        have HFD := Lib.hid (show Five wd w2.heap.size 0 0 22 0 0 from by rw [hwd]; constructor <;> go_simp)
        have hobd : w2.heap.size < wd.heap.size := by rw [hwd]; simpa using hob3
        have hwzd : wr.heap.size ≤ wd.heap.size := by omega
        rw [← hwd]
        clear hwd c0 c1 c2 c3 c4 f0 f1 f2 f3 f4
        refine (HFJ.out _ HBD.out).mono ?_
        rintro e w4 ⟨hb4, hif⟩
        rw [if_pos hdl] at hif
        obtain ⟨R, rc, rfl, hrc1, hrc2, hor⟩ := hif
        have hob4 : w2.heap.size < w4.heap.size := Nat.lt_of_lt_of_le hobd hb4.size
        have HF4 := Lib.hid (five_below HFD.out hb4 hobd)
        have HBX := Lib.hid (show Below wr.heap.size wr w4 from HBD.out.trans (hb4.mono hwzd))
        have HOX := Lib.hid (own_bel HOS.out HBX.out)
        have HNB := Lib.hid (show some w2.heap.size ≠ (Value.slice PA ss.length pc).ownBlock from fun e => by have := (HOS.out.lt _ e.symm).2; omega)
        have hne1 : (3 : TypeId) ≠ 96 := by decide
        have hne3 : (96 : TypeId) ≠ 5 := by decide
        have hq3 : bs.length ≤ 50000 := by omega
        have hne2 : (5 : TypeId) ≠ 96 := by decide
        have hq1 : ss.length + 1 ≤ maxLen := by unfold maxLen; omega
        have hq2 : (ss.length + 1) * 32 ≤ 140737488355328 := by omega
        have HBB := Lib.hid (own_bel HOB.out HBX.out)
        have HSX := Lib.hid (show ∀ x ∈ ss, x.Ok w4 from fun x hx => (HSS.out x hx).keep fun h => h.below HBX.out)
        have HKX := Lib.hid (HK.out.below HBX.out)
        have HRX := Lib.hid (KeptRow.of_own hor)
        have hxz : w.heap.size ≤ w4.heap.size := by have := HBX.out.size; omega
        have HBWX := Lib.hid (show Below w.heap.size w w4 from HBW.out.trans (HBX.out.mono hwz))
        have hbm' := hbm
        unfold maxLen at hbm'
        have hpm' := hpm
        unfold maxLen at hpm'
        clear hb4 hor
        go_wp2_with (first
          | (at_builtin; refine wpList_append_own _ rfl _ _ 91 rfl w.heap.size 96 p0 _ 2 32 tsp sti stz0 stz1 stz2 rfl (by decide) _ ss.length (ss.flatMap SpotD.cells) rfl (HOX.out.alloc _) ⟨_, 0, none⟩ 1 1 [.int .i64 (bs.length : Int), .slice SA st.length SC] rfl rfl (spot_cells _ _ _ _) (spot_one _ _ _ _) hq1 hq2 (le_alloc hxz _) ?_; intro v8 w8 hown hgrow hnil; have HO8 := Lib.hid hown; have HC := Lib.hid (code_app hgrow HOX.out HBB.out hxz HBWX.out); have HB8 := Lib.hid HC.out.1; have HBB8 := Lib.hid HC.out.2.1; have HK8 := Lib.hid (HC.out.2.2.1 _ _ HKX.out); have HR8 := Lib.hid (HC.out.2.2.1 _ _ HRX.out); have hz8 := HB8.out.size; obtain ⟨c0, c1, c2, c3, c4, f0, f1, f2, f3, f4⟩ := HC.out.2.2.2.1 _ _ _ _ _ _ HF4.out hob4 HNB.out; clear hown hgrow hnil)
          | (go_at_call 33; refine (tbytes_any _ bs.length w.heap.size bs 0 0 22 0 0 _ hq3 HBB8.out hz8).mono ?_; rintro e w9 ⟨⟨v9, rfl, ho9⟩, hb9⟩; have HO9 := Lib.hid ho9; have HS9 := Lib.hid (own_keepT HO8.out hb9 hne3); have HB9 := Lib.hid (HB8.out.trans hb9.below); have HK9 := Lib.hid (HK8.out.belowT hb9); have HR9 := Lib.hid (HR8.out.belowT hb9); have HSS9 := Lib.hid (show ∀ x ∈ ss, x.Ok w9 from fun x hx => (HC.out.2.2.2.2 x (HSX.out x hx)).keep fun h => h.belowT hb9); clear ho9 hb9))
        go_roundw
        case rel =>
          have hle := encB_pos 22 0 0
          refine ⟨j + 1, ss ++ [⟨bs.length, st, SA, SC⟩], bs ++ encB 22 0 0, st.dropLast, R, rc, rfl, by omega, ?_, by simp; omega, (by first | rfl | simp), hrc1, hrc2, HR9.out, fun x hx => ?_, by rw [List.length_append]; exact HO9.out, ?_, HB9.out⟩
          · rw [List.map_append]
            exact Made.snoc HM.out HDR.out.1 HDR.out.2 hdl
          · rcases List.mem_append.1 hx with hx | hx
            · exact HSS9.out x hx
            · simp at hx; subst hx; exact ⟨hsc, hscm, HK9.out⟩
          · rw [List.length_append, List.flatMap_append]
            exact HS9.out
        case measure => simp [intOf]; omega
    · have hnot : ¬ (j : Int) < nl ∨ ((j : Int) < nl ∧ ¬ (bs.length : Int) < 90) := by omega
      clear hmade hks hss hob hosp hbw hok
      have hbm' := hbm
      unfold maxLen at hbm'
      have hq1 : bs.length + 1 ≤ maxLen := by unfold maxLen; omega
      have hq2 : (bs.length + 1) * 1 ≤ 140737488355328 := by omega
      rcases hnot with hn1 | ⟨hn1, hn2⟩
      all_goals
        go_wp2_with (at_builtin; refine wpList_append_own _ rfl _ _ 44 rfl w.heap.size 5 y0 _ 1 1 t22 hi hz0 hz1 hz2 rfl (by decide) _ bs.length (u8s bs) rfl (HOB.out.alloc _) ⟨_, 0, none⟩ 1 1 (u8s [0]) rfl rfl (bytes_lit _ 0 _) (u8s_one _) hq1 hq2 (le_alloc hwz _) ?_; intro v9 w9 hown hgrow hnil; have HO9 := Lib.hid hown; have HB9 := Lib.hid (show Below w.heap.size w w9 from grown_below (HBW.out.alloc hwz _) (HOB.out.alloc _) hgrow (Nat.le_refl _) (le_alloc hwz _)); clear hown hgrow hnil)
        go_ret
        exact ⟨⟨v9, _, bs, st, rfl, HM.out, hbl, by rw [u8s_app]; exact HO9.out⟩, HB9.out⟩
end Go.Proofs.YtngobbbinacomaaDoor
