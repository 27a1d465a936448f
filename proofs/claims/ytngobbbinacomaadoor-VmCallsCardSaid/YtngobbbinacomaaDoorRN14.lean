/- Chapter 14: the law package's run: a program of one function over chapter 12's variables, where it is sound and ends well. -/
import Derived.Test.YtngobbbinacomaaDoorRM14
import Derived.Test.YtngobbbinacomaaDoorRO14
import Derived.Deep.DeepCutAuto
import Derived.Deep.RegionHeld3
import Derived.BigRegion
namespace Go.Proofs.YtngobbbinacomaaDoor
open Go.RowKit Go.Proofs.YtngobbbinacomaaDoor.c11 Go.Proofs.YtngobbbinacomaaDoor.c10 Go.Proofs.YtngobbbinacomaaDoor.c13
set_option linter.unusedVariables false
set_option linter.unusedSimpArgs false
attribute [local go_sem ↓] Go.wp_at_zero Go.wp_at_succ

/-- A function's code in a world. -/
structure CodeLies (w : World) (g : Nat) (b : List Int) (c : Nat) : Prop where
  cg : ∀ j u, (b.map (Value.int .u8))[j]? = some u → w.cell? ⟨g, j, none⟩ = some u
  lt : g < w.heap.size
  cap : b.length ≤ c ∧ c ≤ 9223372036854775807
theorem CodeLies.below {w w' : World} {g : Nat} {b : List Int} {c : Nat} (h : CodeLies w g b c) (hb : Below w.heap.size w w') : CodeLies w' g b c :=
  ⟨fun j u hu => (dcell hb h.lt j).trans (h.cg j u hu), Nat.lt_of_lt_of_le h.lt hb.size, h.cap⟩
theorem CodeLies.of_own {w : World} {base n : Nat} {v : Value} {b : List Int} (h : w.ownsRow base 5 1 v n (b.map (Value.int .u8))) (hn : 0 < n) : ∃ g c, v = .slice (some ⟨g, 0, none⟩) n c ∧ CodeLies w g b c := by
  obtain ⟨g, cap, rfl, _⟩ := h.form hn
  obtain ⟨_, c', h0, h1, h2⟩ := own_slice h
  obtain rfl : cap = c' := by injection h0
  have hl : b.length = n := by have := h.1; simpa using this
  unfold maxLen at h2
  refine ⟨g, cap, rfl, fun j u hu => ?_, (h.lt g rfl).2, by omega, h2⟩
  have hj : j < n * 1 := by have h1 := (List.getElem?_eq_some_iff.1 hu).1; simp at h1; omega
  rw [h.cellAt j hj]
  exact hu
theorem CodeLies.lit (w : World) (b : List Int) (t : TypeId) (hl : b.length ≤ 1000) : CodeLies (w.alloc (.cells (b.map (Value.int .u8)).toArray t)) w.heap.size b b.length :=
  ⟨fun j u hu => by rw [World.cell?_alloc_new]; simpa using hu, by simp, Nat.le_refl _, by omega⟩

def begL : List Int := [0, 1, 5, -3, 0, 0, 0, 0, 0, 0, 50, 0, 0, 0, 0, 0, 0, 3, 0, 0, 0]

/-- The image that run makes. -/
def runWorld (w2 : World) (sb g : Nat) (n c : Nat) : World :=
  (((w2.alloc (.cells #[.int .i64 7, .int .i64 (-1)] 3)).alloc (.cells #[.slice (some ⟨g, 0, none⟩) n c] 44)).alloc (.cells #[.slice (some ⟨sb, 0, none⟩) 7 7, .slice (some ⟨w2.heap.size, 0, none⟩) 2 2, .slice (some ⟨w2.heap.size + 1, 0, none⟩) 1 1] 29))
structure RunMade (wb : World) (H sb g : Nat) (b : List Int) (c : Nat) : Prop where
  syms : Syms wb wb.heap.size (some ⟨sb, 0, none⟩) 7 (symsP true)
  row : Row wb wb.heap.size 1 (some ⟨H, 0, none⟩) 2 (([7, -1] : List Int).map (Value.int .i64))
  code : CodeC wb wb.heap.size (H + 1) g b c
  m0 : wb.cell? ⟨H + 1 + 1, 0, none⟩ = some (.slice (some ⟨sb, 0, none⟩) 7 7)
  m1 : wb.cell? ⟨H + 1 + 1, 1, none⟩ = some (.slice (some ⟨H, 0, none⟩) 2 2)
  m2 : wb.cell? ⟨H + 1 + 1, 2, none⟩ = some (.slice (some ⟨H + 1, 0, none⟩) 1 1)
  lt : H + 3 ≤ wb.heap.size
theorem RunMade.below {w w' : World} {H sb g : Nat} {b : List Int} {c : Nat} (h : RunMade w H sb g b c) (hb : Below w.heap.size w w') : RunMade w' H sb g b c :=
  ⟨(h.syms.below hb).moreS hb.size, (h.row.below hb).more hb.size, (h.code.below hb).more hb.size, (dcell hb (by have := h.lt; omega) 0).trans h.m0, (dcell hb (by have := h.lt; omega) 1).trans h.m1, (dcell hb (by have := h.lt; omega) 2).trans h.m2, Nat.le_trans h.lt hb.size⟩
theorem runWorld_made {w2 : World} {sb g : Nat} {b : List Int} {c : Nat} (hs : Syms w2 w2.heap.size (some ⟨sb, 0, none⟩) 7 (symsP true)) (hc : CodeLies w2 g b c) :
    RunMade (runWorld w2 sb g b.length c) w2.heap.size sb g b c ∧ Below w2.heap.size w2 (runWorld w2 sb g b.length c) := by
  have hz : (runWorld w2 sb g b.length c).heap.size = w2.heap.size + 3 := by simp [runWorld]
  have hb0 : Below w2.heap.size w2 (runWorld w2 sb g b.length c) := (((Below.refl _ w2).alloc (by simp) _).alloc (by simp) _).alloc (by simp; omega) _
  refine ⟨⟨(hs.below hb0).moreS (by omega), ⟨rfl, fun _ => ⟨w2.heap.size, 0, rfl, by omega, ?_⟩⟩, ⟨?_, fun j u hu => (dcell hb0 hc.lt j).trans (hc.cg j u hu), by omega, by have := hc.lt; omega, hc.cap⟩, ?_, ?_, ?_, by omega⟩, hb0⟩
  · intro j u hu
    match j, hu with
    | 0, hu => simp at hu; subst hu; unfold runWorld; go_simp
    | 1, hu => simp at hu; subst hu; unfold runWorld; go_simp
    | j + 2, hu => simp at hu
  · unfold runWorld; go_simp
  · unfold runWorld; go_simp
  · unfold runWorld; go_simp
  · unfold runWorld; go_simp

theorem run_check {wb : World} {H sb g : Nat} {b : List Int} {c : Nat} (h : RunMade wb H sb g b c) (hF : Fine (cellsOf (symsP true)) b) :
    Calls Tryd.prog 28 #[.agg #[.slice (some ⟨sb, 0, none⟩) 7 7, .slice (some ⟨H, 0, none⟩) 2 2, .slice (some ⟨H + 1, 0, none⟩) 1 1]] wb fun e w' => e = .returned (.int .i64 0) ∧ Below wb.heap.size wb w' := by
  have hT := hF.cert
  have hone : ∀ (k : Nat) (b' : List Int), [b][k]? = some b' → b' = b := by
    intro k b' hk
    cases k with
    | zero => simp at hk; exact hk.symm
    | succ k => simp at hk
  refine rimage_ok (some ⟨sb, 0, none⟩) 7 (symsP true) (some ⟨H, 0, none⟩) 2 [7, -1] (some ⟨H + 1, 0, none⟩) 1 [b] (fun _ => some ⟨g, 0, none⟩) (fun _ => c) wb (imgAtC h.syms (by decide) h.row (by decide) h.code hF.small) symsT_good (by decide) (symsP_size true) (by decide) ?_ (by simp) (fun b' hb' => by simp at hb'; subst hb'; exact hF.len) (fun k b' hk => by rw [hone k b' hk]; exact ⟨hF.read, hT⟩) (fun u hu => rcalls_ok _ _ _ _ _ _ _ _ _ _ _ u hu (by simp) (fun b' hb' => by simp at hb'; subst hb'; exact hF.len) (fun k b' hk => by rw [hone k b' hk]; exact ⟨hF.read, hT.choose_spec.sml, hF.calls⟩))
  intro x hx
  simp at hx
  rcases hx with rfl | rfl <;> (simp [wrapK]; unfold wrap32; omega)

theorem box_new4 {u w5 : World} {a b c d : Value} {t : TypeId} (hb : Below (u.alloc (.cells #[a, b, c, d] t)).heap.size (u.alloc (.cells #[a, b, c, d] t)) w5) :
    w5.cell? ⟨u.heap.size, 0, none⟩ = some a ∧ w5.cell? ⟨u.heap.size, 1, none⟩ = some b ∧ w5.cell? ⟨u.heap.size, 2, none⟩ = some c ∧ w5.cell? ⟨u.heap.size, 3, none⟩ = some d ∧
    w5.frozen? ⟨u.heap.size, 0, none⟩ = false ∧ w5.frozen? ⟨u.heap.size, 1, none⟩ = false ∧ w5.frozen? ⟨u.heap.size, 2, none⟩ = false ∧ w5.frozen? ⟨u.heap.size, 3, none⟩ = false :=
  ⟨(dcell hb (by simp) 0).trans (by go_simp), (dcell hb (by simp) 1).trans (by go_simp), (dcell hb (by simp) 2).trans (by go_simp), (dcell hb (by simp) 3).trans (by go_simp), (dfroz hb (by simp) 0).trans (by go_simp), (dfroz hb (by simp) 1).trans (by go_simp), (dfroz hb (by simp) 2).trans (by go_simp), (dfroz hb (by simp) 3).trans (by go_simp)⟩
theorem run_cells {wb : World} {H sb g : Nat} {b : List Int} {c : Nat} (h : RunMade wb H sb g b c) :
    Calls Tryd.prog 20 #[.agg #[.slice (some ⟨sb, 0, none⟩) 7 7, .slice (some ⟨H, 0, none⟩) 2 2, .slice (some ⟨H + 1, 0, none⟩) 1 1], .slice none 0 0] wb fun e w' => (∃ g c, e = .returned (.slice (some ⟨g, 0, none⟩) 21 c) ∧ ((21 : Nat) ≤ c ∧ c ≤ 9223372036854775807) ∧ w'.ownsRow wb.heap.size 3 1 (.slice (some ⟨g, 0, none⟩) 21 c) 21 (begL.map (Value.int .i64))) ∧ Below wb.heap.size wb w' := by
  refine (lcells_any (some ⟨sb, 0, none⟩) 7 7 (symsP true) _ _ 2 2 1 1 wb h.syms (by decide) (by decide) (by decide) (symsP_size true)).mono ?_
  rintro e w4 ⟨v4, rfl, ho4, hb4⟩
  refine ⟨?_, hb4⟩
  rw [begin_true] at ho4
  have ho4 : w4.ownsRow wb.heap.size 3 1 v4 21 (begL.map (Value.int .i64)) := ho4
  obtain ⟨g, cap, rfl, _, _⟩ := ho4.form (by decide)
  obtain ⟨_, c', h0, h1, h2⟩ := own_slice ho4
  obtain rfl : cap = c' := by injection h0
  exact ⟨g, cap, rfl, ⟨h1, h2⟩, ho4⟩
theorem run_run {wb : World} {H sb g : Nat} {b : List Int} {c B : Nat} (h : RunMade wb H sb g b c) (hF : Fine (cellsOf (symsP true)) b) {ww wc : Nat} (ho : wb.ownsRow B 3 1 (.slice (some ⟨ww, 0, none⟩) 21 wc) 21 (begL.map (Value.int .i64))) (hc : 21 ≤ wc) (i0 i1 i2 i3 now : Int) {R : St}
    (hR : ∀ SA SC Ca Cc f La Lc, execP (envC SA SC (symsP true) [7, -1] Ca Cc b c f g i0 i1 i2 i3 now La Lc) 101 b 0 ⟨begL, 5, 6, 7, 8, 100, 0, []⟩ = (R, 0)) :
    Calls Tryd.prog 22 #[.agg #[.slice (some ⟨sb, 0, none⟩) 7 7, .slice (some ⟨H, 0, none⟩) 2 2, .slice (some ⟨H + 1, 0, none⟩) 1 1], .slice (some ⟨ww, 0, none⟩) 21 wc, .agg #[.int .i64 i0, .int .i64 i1, .int .i64 i2, .int .i64 i3], .agg #[.int .i64 5, .int .i64 6, .int .i64 7, .int .i64 8], .int .i64 now, .int .i64 100] wb fun e w' =>
      (∃ v, e = .returned (.tuple #[v, .agg #[.int .i64 R.o0, .int .i64 R.o1, .int .i64 R.o2, .int .i64 R.o3], .int .i64 R.used, .int .i64 0]) ∧ w'.ownsRow wb.heap.size 3 1 v R.cells.length (R.cells.map (Value.int .i64))) ∧ Below wb.heap.size wb w' := by
  have hl := hF.len
  refine (runC (w := wb) (SA := some ⟨sb, 0, none⟩) (SC := 7) (l := symsP true) (consts := [7, -1]) (Ca := some ⟨H, 0, none⟩) (Cc := 2) (b := b) (c := c) h.syms (by decide) (by decide) h.row (by decide) h.code hF.small (by omega) (symsP_len true) (some ⟨ww, 0, none⟩) 21 wc begL (Row.of_own ho) (by decide) hc i0 i1 i2 i3 5 6 7 8 now 100 (by decide) (fun La Lc => hR _ _ _ _ _ La Lc)).mono ?_
  rintro e w5 ⟨hb5, hr, _⟩
  exact ⟨hr rfl, hb5⟩

theorem own_base {w : World} {base base' : Nat} {e : TypeId} {size n : Nat} {v : Value} {xs : List Value} (h : w.ownsRow base e size v n xs) (hb : base' ≤ base) : w.ownsRow base' e size v n xs :=
  ⟨h.1, h.2.elim .inl fun ⟨g, cap, cur, h1, h2, h3⟩ => .inr ⟨g, cap, cur, h1, Nat.le_trans hb h2, h3⟩⟩
theorem own_dr {w : World} {base : Nat} {e : TypeId} {size n : Nat} {v : Value} {xs : List Value} (h : w.ownsRow base e size v n xs) : w.drew.ownsRow base e size v n xs := h
theorem keepRunC {u1 W' : World} {B m q : Nat} {a0 a1 a2 b0 b1 b2 b3 : Value} (hb : Below B u1 W') (h : m < B) (h' : q < B) (k0 : u1.cell? ⟨m, 0, none⟩ = some a0) (k1 : u1.cell? ⟨m, 1, none⟩ = some a1) (k2 : u1.cell? ⟨m, 2, none⟩ = some a2) (l0 : u1.cell? ⟨q, 0, none⟩ = some b0) (l1 : u1.cell? ⟨q, 1, none⟩ = some b1) (l2 : u1.cell? ⟨q, 2, none⟩ = some b2) (l3 : u1.cell? ⟨q, 3, none⟩ = some b3) :
    (W'.cell? ⟨m, 0, none⟩ = some a0 ∧ W'.cell? ⟨m, 1, none⟩ = some a1 ∧ W'.cell? ⟨m, 2, none⟩ = some a2) ∧ W'.cell? ⟨q, 0, none⟩ = some b0 ∧ W'.cell? ⟨q, 1, none⟩ = some b1 ∧ W'.cell? ⟨q, 2, none⟩ = some b2 ∧ W'.cell? ⟨q, 3, none⟩ = some b3 :=
  ⟨⟨(dcell hb h 0).trans k0, (dcell hb h 1).trans k1, (dcell hb h 2).trans k2⟩, (dcell hb h' 0).trans l0, (dcell hb h' 1).trans l1, (dcell hb h' 2).trans l2, (dcell hb h' 3).trans l3⟩

set_option maxHeartbeats 8000000 in
set_option maxRecDepth 100000 in
theorem run14_any (g : Nat) (b : List Int) (c : Nat) (i0 i1 i2 i3 now : Int) (w : World) (hc : CodeLies w g b c) (hF : Fine (cellsOf (symsP true)) b)
    {R : St} (hR : ∀ SA SC Ca Cc f La Lc, execP (envC SA SC (symsP true) [7, -1] Ca Cc b c f g i0 i1 i2 i3 now La Lc) 101 b 0 ⟨begL, 5, 6, 7, 8, 100, 0, []⟩ = (R, 0)) :
    Calls Tryd.prog 29 #[.slice (some ⟨g, 0, none⟩) b.length c, .agg #[.int .i64 i0, .int .i64 i1, .int .i64 i2, .int .i64 i3], .int .i64 now] w fun e w' => Below w.heap.size w w' ∧
      ∃ v, e = .returned (.tuple #[v, .agg #[.int .i64 R.o0, .int .i64 R.o1, .int .i64 R.o2, .int .i64 R.o3], .int .i64 R.used, .int .i64 0, .bool true]) ∧ w'.ownsRow w.heap.size 3 1 v R.cells.length (R.cells.map (Value.int .i64)) := by
  have HC := Lib.hid hc
  have HF := Lib.hid hF
  have HR := Lib.hid hR
  clear hc hF hR
  go_enter Tryd.func29, Tryd.ntmps29
  go_wp2_with fail
  refine (syms_any true _).mono ?_
  rintro e w2 ⟨sb, rfl, hs2, hb2⟩
  have HB2 := Lib.hid hb2
  have HS2 := Lib.hid hs2
  clear hb2 hs2
  go_wp2_with fail
  obtain ⟨wb, hwb⟩ : ∃ x : World, x = runWorld w2 sb g b.length c := ⟨_, rfl⟩
  have hz2 := HB2.out.size
  simp at hz2
  have hlt := HC.out.lt
  have hc2 : CodeLies w2 g b c := ⟨fun j u hu => (dcell HB2.out (by simp; omega) j).trans ((dcell (((Below.refl _ w).alloc (Nat.le_refl _) _).alloc (by simp) _) hlt j).trans (HC.out.cg j u hu)), by omega, HC.out.cap⟩
  have hmb := runWorld_made HS2.out hc2
  rw [← hwb] at hmb
  have HM := Lib.hid hmb.1
  have HBM := Lib.hid hmb.2
  have s2 : ∀ b j, b < w.heap.size + 2 → wb.cell? ⟨b, j, none⟩ = ((w.alloc (.cells #[.int .i64 i0, .int .i64 i1, .int .i64 i2, .int .i64 i3] 23)).alloc (.cells #[.int .i64 0, .int .i64 0, .int .i64 0, .int .i64 0] 23)).cell? ⟨b, j, none⟩ := fun b j h => (dcell HBM.out (by omega) j).trans (dcell HB2.out (by simp; omega) j)
  have HS := Lib.hid s2
  have HBW := Lib.hid (show Below w.heap.size w wb from below3 (((Below.refl _ w).alloc (Nat.le_refl _) _).alloc (by simp) _) (by simp; omega) (below3 (HB2.out.mono (by simp)) (by simp; omega) (HBM.out)))
  clear hmb s2 hc2
  rw [show (((w2.alloc (.cells #[.int .i64 7, .int .i64 (-1)] 3)).alloc (.cells #[.slice (some ⟨g, 0, none⟩) b.length c] 44)).alloc (.cells #[.slice (some ⟨sb, 0, none⟩) 7 7, .slice (some ⟨w2.heap.size, 0, none⟩) 2 2, .slice (some ⟨w2.heap.size + 1, 0, none⟩) 1 1] 29)) = wb from hwb.symm]
  clear hwb
  refine (run_check HM.out HF.out).mono ?_
  rintro e w3 ⟨rfl, hb3⟩
  have HB3 := Lib.hid hb3
  have hz3 := hb3.size
  have HM3 := Lib.hid (HM.out.below hb3)
  have m0 := HM3.out.m0
  have m1 := HM3.out.m1
  have m2 := HM3.out.m2
  have hzb := HBM.out.size
  have HS3 := Lib.hid (fun b j (h : b < w.heap.size + 2) => (dcell hb3 (show b < wb.heap.size by omega) j).trans (HS.out b j h))
  clear hb3
  have n0 : w3.cell? ⟨w.heap.size, 0, none⟩ = some (.int .i64 i0) := (HS3.out _ 0 (by omega)).trans (by go_simp)
  have n1 : w3.cell? ⟨w.heap.size, 1, none⟩ = some (.int .i64 i1) := (HS3.out _ 1 (by omega)).trans (by go_simp)
  have n2 : w3.cell? ⟨w.heap.size, 2, none⟩ = some (.int .i64 i2) := (HS3.out _ 2 (by omega)).trans (by go_simp)
  have n3 : w3.cell? ⟨w.heap.size, 3, none⟩ = some (.int .i64 i3) := (HS3.out _ 3 (by omega)).trans (by go_simp)
  have LC := Lib.hid (fun u (hu : Below w3.heap.size w3 u) => run_cells (HM3.out.below hu))
  have LR := Lib.hid (fun u ww wc B (hu : Below w3.heap.size w3 u) (ho : u.ownsRow B 3 1 (.slice (some ⟨ww, 0, none⟩) 21 wc) 21 (begL.map (Value.int .i64))) (hc : 21 ≤ wc) => run_run (HM3.out.below hu) HF.out ho hc i0 i1 i2 i3 now HR.out)
  have hlm : w2.heap.size + 1 + 1 < w3.heap.size := by have := HM3.out.lt; omega
  have hlw : w.heap.size < w3.heap.size := by omega
  go_wp2_with fail
  go_cut [12, 13, 14, 15] (fun c12 c13 c14 c15 wx => ∃ (v : Value) (g : Nat), c12 = v ∧ c13 = .pointer (some ⟨g, 0, none⟩) ∧ c14 = .int .i64 R.used ∧ c15 = .int .i64 0 ∧ wx.ownsRow w3.heap.size 3 1 v R.cells.length (R.cells.map (Value.int .i64)) ∧ (wx.cell? ⟨g, 0, none⟩ = some (.int .i64 R.o0) ∧ wx.cell? ⟨g, 1, none⟩ = some (.int .i64 R.o1) ∧ wx.cell? ⟨g, 2, none⟩ = some (.int .i64 R.o2) ∧ wx.cell? ⟨g, 3, none⟩ = some (.int .i64 R.o3)) ∧ Below w3.heap.size w3 wx)
  case first =>
    go_region_held3 (fun w' => (w'.cell? ⟨w2.heap.size + 1 + 1, 0, none⟩ = some (.slice (some ⟨sb, 0, none⟩) 7 7) ∧ w'.cell? ⟨w2.heap.size + 1 + 1, 1, none⟩ = some (.slice (some ⟨w2.heap.size, 0, none⟩) 2 2) ∧ w'.cell? ⟨w2.heap.size + 1 + 1, 2, none⟩ = some (.slice (some ⟨w2.heap.size + 1, 0, none⟩) 1 1)) ∧ w'.cell? ⟨w.heap.size, 0, none⟩ = some (.int .i64 i0) ∧ w'.cell? ⟨w.heap.size, 1, none⟩ = some (.int .i64 i1) ∧ w'.cell? ⟨w.heap.size, 2, none⟩ = some (.int .i64 i2) ∧ w'.cell? ⟨w.heap.size, 3, none⟩ = some (.int .i64 i3)) (first | exact keepRunC (u1 := w3) (by repeat (first | (with_reducible exact HB4.out) | (with_reducible exact HB5.out) | (with_reducible exact Below.refl _ _) | (with_reducible refine Below.setCell ?_ (by first | omega | (simp; done) | (simp; omega)) _) | (with_reducible refine Below.drew ?_) | (with_reducible refine Below.alloc ?_ (by first | omega | (simp; done) | (simp; omega)) _))) hlm hlw m0 m1 m2 n0 n1 n2 n3)
      (first
        | (go_at_call 20; refine (LC.out _ (by repeat (first | (with_reducible exact HB4.out) | (with_reducible exact HB5.out) | (with_reducible exact Below.refl _ _) | (with_reducible refine Below.setCell ?_ (by first | omega | (simp; done) | (simp; omega)) _) | (with_reducible refine Below.drew ?_) | (with_reducible refine Below.alloc ?_ (by first | omega | (simp; done) | (simp; omega)) _)))).mono ?_; rintro e w4 ⟨⟨ww, wc, rfl, ⟨hc1, hc2⟩, ho4⟩, hb4⟩; have HO4 := Lib.hid ho4; have z4 := hb4.size; (try simp at z4); have HB4 := Lib.hid (show Below w3.heap.size w3 w4 from Below.trans (by repeat (first | (with_reducible exact HB4.out) | (with_reducible exact HB5.out) | (with_reducible exact Below.refl _ _) | (with_reducible refine Below.setCell ?_ (by first | omega | (simp; done) | (simp; omega)) _) | (with_reducible refine Below.drew ?_) | (with_reducible refine Below.alloc ?_ (by first | omega | (simp; done) | (simp; omega)) _))) (hb4.mono (by first | omega | (simp; done) | (simp; omega)))); (try have p4 := dcell hb4 (b := w3.heap.size) (by first | omega | (simp; done) | (simp; omega))); (try have p4f := dfroz hb4 (b := w3.heap.size) (by first | omega | (simp; done) | (simp; omega))); clear ho4 hb4)
        | (go_at_call 22; refine (LR.out _ _ _ _ (by repeat (first | (with_reducible exact HB4.out) | (with_reducible exact HB5.out) | (with_reducible exact Below.refl _ _) | (with_reducible refine Below.setCell ?_ (by first | omega | (simp; done) | (simp; omega)) _) | (with_reducible refine Below.drew ?_) | (with_reducible refine Below.alloc ?_ (by first | omega | (simp; done) | (simp; omega)) _))) (by first | exact HO4.out | exact HO4.out.alloc _) hc1).mono ?_; rintro e w5 ⟨⟨v5, rfl, ho5⟩, hb5⟩; have HO5 := Lib.hid ho5; have z5 := hb5.size; (try simp at z5); (try have y3 : v5.ownBlock ≠ some w3.heap.size := fun e => by have h := ho5.lt _ e; first | omega | (simp at h; done) | (simp at h; omega)); (try have y4 : v5.ownBlock ≠ some w4.heap.size := fun e => by have h := ho5.lt _ e; first | omega | (simp at h; done) | (simp at h; omega)); have y5 : v5.ownBlock ≠ some w5.heap.size := fun e => (by have h := ho5.lt _ e; omega); have HB5 := Lib.hid (show Below w3.heap.size w3 w5 from Below.trans (by repeat (first | (with_reducible exact HB4.out) | (with_reducible exact HB5.out) | (with_reducible exact Below.refl _ _) | (with_reducible refine Below.setCell ?_ (by first | omega | (simp; done) | (simp; omega)) _) | (with_reducible refine Below.drew ?_) | (with_reducible refine Below.alloc ?_ (by first | omega | (simp; done) | (simp; omega)) _))) (hb5.mono (by first | omega | (simp; done) | (simp; omega)))); (try have p5 := dcell hb5 (b := w3.heap.size) (by first | omega | (simp; done) | (simp; omega))); (try have p5f := dfroz hb5 (b := w3.heap.size) (by first | omega | (simp; done) | (simp; omega))); (try have p6 := dcell hb5 (b := w4.heap.size) (by first | omega | (simp; done) | (simp; omega))); (try have p6f := dfroz hb5 (b := w4.heap.size) (by first | omega | (simp; done) | (simp; omega))); clear ho5 hb5))
    all_goals (try go_wp2_with fail)
    all_goals go_meet
    all_goals refine ⟨_, _, rfl, rfl, rfl, rfl, ?_, ⟨by go_simp, by go_simp, by go_simp, by go_simp⟩, ?_⟩
    all_goals repeat (first | (with_reducible exact HB5.out) | (with_reducible refine own_base HO5.out (by first | omega | (simp; done) | (simp; omega))) | (refine Below.setCell ?_ (by first | omega | (simp; done) | (simp; omega)) _) | (refine Below.alloc ?_ (by first | omega | (simp; done) | (simp; omega)) _) | (refine own_setFar ?_ (by assumption) _) | (refine World.ownsRow.alloc ?_ _))
  case rest =>
  obtain ⟨v, g5, hv12, rfl, rfl, rfl, ho5, ⟨o0, o1, o2, o3⟩, hb5⟩ := hcut
  subst hv12
  have HO5 := Lib.hid ho5
  have HB5 := Lib.hid hb5
  clear ho5 hb5
  have hzw := HBW.out.size
  have hlw1 : w.heap.size + 1 < w3.heap.size := by omega
  have r0 : wc.cell? ⟨w.heap.size + 1, 0, none⟩ = some (.int .i64 0) := (dcell HB5.out hlw1 0).trans ((HS3.out _ 0 (by omega)).trans (by go_simp))
  have r1 : wc.cell? ⟨w.heap.size + 1, 1, none⟩ = some (.int .i64 0) := (dcell HB5.out hlw1 1).trans ((HS3.out _ 1 (by omega)).trans (by go_simp))
  have r2 : wc.cell? ⟨w.heap.size + 1, 2, none⟩ = some (.int .i64 0) := (dcell HB5.out hlw1 2).trans ((HS3.out _ 2 (by omega)).trans (by go_simp))
  have r3 : wc.cell? ⟨w.heap.size + 1, 3, none⟩ = some (.int .i64 0) := (dcell HB5.out hlw1 3).trans ((HS3.out _ 3 (by omega)).trans (by go_simp))
  have hfz : ∀ j, wc.frozen? ⟨w.heap.size + 1, j, none⟩ = false := fun j => (dfroz HB5.out hlw1 j).trans ((dfroz HB3.out (by omega) j).trans ((dfroz HBM.out (by omega) j).trans ((dfroz HB2.out (by simp) j).trans (by go_simp))))
  have f0 := hfz 0
  have f1 := hfz 1
  have f2 := hfz 2
  have f3 := hfz 3
  go_wp2_with fail
  have hnb : ∀ x, u12.ownBlock = some x → w3.heap.size ≤ x := fun x hx => (HO5.out.lt x hx).1
  go_region
  go_wp2
  have hne : u12.ownBlock ≠ some (w.heap.size + 1) := fun e => by have := hnb _ e; omega
  refine bodyPost_ret (v := .tuple #[u12, .agg #[.int .i64 R.o0, .int .i64 R.o1, .int .i64 R.o2, .int .i64 R.o3], .int .i64 R.used, .int .i64 0, .bool true]) (by simp [results, Tryd.results29, go_sem, r0, r1, r2, r3, f0, f1, f2, f3]) rfl ⟨?_, _, rfl, ?_⟩
  · repeat (first | (with_reducible exact below3 HBW.out hzw (HB3.out.trans (HB5.out.mono hz3))) | (with_reducible refine Below.setCell ?_ (by first | omega | (simp; done) | (simp; omega)) _) | (with_reducible refine Below.drew ?_))
  · repeat (first | (with_reducible refine own_dr ?_) | (with_reducible refine own_base HO5.out (by first | omega | (simp; done) | (simp; omega))) | (with_reducible refine own_setFar ?_ hne _))
end Go.Proofs.YtngobbbinacomaaDoor
