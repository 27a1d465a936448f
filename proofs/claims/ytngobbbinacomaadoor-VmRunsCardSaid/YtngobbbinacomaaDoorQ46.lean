/- Chapter 14: the document's Run of a sound program: its machine made, its run, what it answers. -/
import Derived.Test.YtngobbbinacomaaDoorQ45
import Derived.Outline
import Derived.Deep.RegionHeld3
import Derived.BigRegion
namespace Go.Proofs.YtngobbbinacomaaDoor
open Go.RowKit Go.Proofs.YtngobbbinacomaaDoor.c11 Go.Proofs.YtngobbbinacomaaDoor.c10 Go.Proofs.YtngobbbinacomaaDoor.c13
set_option linter.unusedVariables false
set_option linter.unusedSimpArgs false
attribute [local go_sem ↓] Go.wp_at_zero Go.wp_at_succ
theorem valInts_one (l : List Int) : ∀ x ∈ l.map (Value.int .i64), x.oneCell' = true := by
  intro x hx
  obtain ⟨y, _, rfl⟩ := List.mem_map.1 hx
  rfl
/-- Rows of cells and rows of numbers lie in blocks of their own. -/
theorem owns_apart {w : World} {base base' a b : Nat} {e e' : TypeId} {size size' n n' c c' : Nat} {xs xs' : List Value} (h : w.ownsRow base e size (.slice (some ⟨a, 0, none⟩) n c) n xs) (h' : w.ownsRow base' e' size' (.slice (some ⟨b, 0, none⟩) n' c') n' xs') (hT : e ≠ e') : a ≠ b := by
  rintro rfl
  rcases h.2 with ⟨h0, _⟩ | ⟨g, cap, cur, hv, _, hg, _⟩
  · cases h0
  rcases h'.2 with ⟨h0, _⟩ | ⟨g', cap', cur', hv', _, hg', _⟩
  · cases h0
  injection hv with q1; injection q1 with q1; injection q1 with q1
  injection hv' with q2; injection q2 with q2; injection q2 with q2
  subst q1 q2
  rw [hg] at hg'
  injection hg' with hg'
  injection hg' with _ hg'
  exact hT hg'
/-- The machine made. -/
theorem rmach_made {w wb u : World} {E : Env} {SA : Option Addr} {SC : Nat} {l : List SymD} (hI : Img w E SA SC l) (hb0 : Below w.heap.size w wb) (hsw : w.heap.size ≤ wb.heap.size) (hbz : Below wb.heap.size wb u) {lb Lc cg cc : Nat} {S : St}
    {bl bc : Nat} (hbl : wb.heap.size ≤ bl) (hbc : wb.heap.size ≤ bc) (hl : u.ownsRow bl 42 6 (.slice (some ⟨lb, 0, none⟩) E.lay.length Lc) E.lay.length (cellRow E.lay)) (ho : u.ownsRow bc 3 1 (.slice (some ⟨cg, 0, none⟩) S.cells.length cc) S.cells.length (S.cells.map (Value.int .i64))) (hbud : S.used + S.left ≤ 1000000) (hc : S.cells.length ≤ 1000000) :
    RMach ⟨u.heap.size, u.heap.size, atLay E (some ⟨lb, 0, none⟩) Lc, SA, SC, cg, cc⟩ (u.alloc (.cells (RWho.arr ⟨u.heap.size, u.heap.size, atLay E (some ⟨lb, 0, none⟩) Lc, SA, SC, cg, cc⟩ S) 81)) S := by
  have s0 := hb0.size
  have sz := hbz.size
  have hlo := ho.lt cg rfl
  have hll := hl.lt lb rfl
  have hne : lb ≠ cg := owns_apart hl ho (by decide)
  have hb : Below w.heap.size w (u.alloc (.cells (RWho.arr ⟨u.heap.size, u.heap.size, atLay E (some ⟨lb, 0, none⟩) Lc, SA, SC, cg, cc⟩ S) 81)) := (below3 hb0 hsw hbz).trans ((alloc_bel u _).mono (by omega))
  have hX : ∀ b, b < w.heap.size → b < u.heap.size ∧ b ≠ cg := fun b h => ⟨by omega, by omega⟩
  have hl2 := own_bel hl (alloc_bel u (.cells (RWho.arr ⟨u.heap.size, u.heap.size, atLay E (some ⟨lb, 0, none⟩) Lc, SA, SC, cg, cc⟩ S) 81))
  refine ⟨alloc_blkAt _ _ _ _ rfl, own_mono8 (own_bel ho (alloc_bel _ _)) (Nat.zero_le _), ⟨?_, hI.cc, ?_, hI.fc, ?_, ?_, ?_⟩, Nat.le_refl _, by show u.heap.size ≠ cg; omega, hbud, hc⟩
  · exact ((hI.consts.row (B := w.heap.size) (fun b h => h)).below hb).rowX hX
  · exact ((hI.funcs.row (B := w.heap.size) (fun b h => h)).below hb).rowX hX
  · intro i b hi
    obtain ⟨q1, q2⟩ := hI.code i b hi
    exact ⟨((q1.row (B := w.heap.size) (fun b h => h)).below hb).rowX hX, q2⟩
  · refine ⟨hl.1, fun _ => ⟨lb, 0, rfl, ⟨hll.2, hne⟩, fun j v hv => ?_⟩⟩
    rw [Nat.zero_add]
    have h' := hl2.cells rfl j v hv
    rw [Addr.add_lit] at h'
    simpa using h'
  · obtain ⟨_, c, hv, h1, h2⟩ := own_slice hl
    obtain rfl : Lc = c := by injection hv
    unfold maxLen at h2
    exact ⟨h1, h2⟩
/-- What stands behind the machine's making. -/
def RunCut (E : Env) (SA : Option Addr) (SC : Nat) (S : St) (wb : World) (v : Value) (wx : World) : Prop :=
  ∃ (M : RWho) (La : Option Addr) (Lc : Nat), v = .pointer (some ⟨M.g, 0, none⟩) ∧ M.E = atLay E La Lc ∧ Below wb.heap.size wb wx ∧ wb.heap.size ≤ M.g ∧ wb.heap.size ≤ M.cg ∧ RMach M wx S
theorem run_cut {w wb u : World} {E : Env} {SA : Option Addr} {SC : Nat} {l : List SymD} (hI : Img w E SA SC l) (hb0 : Below w.heap.size w wb) (hsw : w.heap.size ≤ wb.heap.size) (hbz : Below wb.heap.size wb u) {lb Lc cg cc nl n : Nat} {S : St}
    {bl bc : Nat} (hbl : wb.heap.size ≤ bl) (hbc : wb.heap.size ≤ bc) (hnl : nl = E.lay.length) (hn : n = S.cells.length) (hl : u.ownsRow bl 42 6 (.slice (some ⟨lb, 0, none⟩) nl Lc) nl (cellRow E.lay)) (ho : u.ownsRow bc 3 1 (.slice (some ⟨cg, 0, none⟩) n cc) n (S.cells.map (Value.int .i64))) (hbud : S.used + S.left ≤ 1000000) (hc : S.cells.length ≤ 1000000)
    {a : Array Value} (ha : a = RWho.arr ⟨u.heap.size, u.heap.size, atLay E (some ⟨lb, 0, none⟩) Lc, SA, SC, cg, cc⟩ S) : RunCut E SA SC S wb (.pointer (some ⟨u.heap.size, 0, none⟩)) (u.alloc (.cells a 81)) := by
  subst hnl hn ha
  have hlo := ho.lt cg rfl
  have sz := hbz.size
  exact ⟨⟨u.heap.size, u.heap.size, atLay E (some ⟨lb, 0, none⟩) Lc, SA, SC, cg, cc⟩, _, _, rfl, rfl, hbz.trans ((alloc_bel u _).mono sz), sz, by show wb.heap.size ≤ cg; omega, rmach_made hI hb0 hsw hbz hbl hbc hl ho hbud hc⟩
/-- What a run of the machine's leaves as it was. -/
theorem rfr_below {M : RWho} {w wx w2 : World} {B : Nat} (hb : Below B w wx) (h : RFr M wx.heap.size wx w2) (hg : B ≤ M.g) (hc : B ≤ M.cg) (hB : B ≤ wx.heap.size) : Below B w w2 :=
  ⟨h.os.trans hb.os, h.tape.trans hb.tape, h.output.trans hb.output, Nat.le_trans hb.size h.size, fun b hbb => (h.block b (by omega) (by omega) (by omega)).trans (hb.block b hbb)⟩
/-- What a run tells: what it used, its error, and, if there is none, what it left. -/
def DocPost (R : St × Int) (u : World) (e : Ending) (w' : World) : Prop :=
  Below u.heap.size u w' ∧ ∃ v o0 o1 o2 o3, e = .returned (.tuple #[v, .agg #[.int .i64 o0, .int .i64 o1, .int .i64 o2, .int .i64 o3], .int .i64 (R.1.used : Nat), .int .i64 R.2]) ∧
    ((R.2 = 0 ∧ o0 = R.1.o0 ∧ o1 = R.1.o1 ∧ o2 = R.1.o2 ∧ o3 = R.1.o3 ∧ w'.ownsRow u.heap.size 3 1 v R.1.cells.length (R.1.cells.map (Value.int .i64))) ∨ (R.2 ≠ 0 ∧ v = .slice none 0 0 ∧ o0 = 0 ∧ o1 = 0 ∧ o2 = 0 ∧ o3 = 0))
theorem docPost_ok {R1 : St} {u w' : World} {v : Value} (hb : Below u.heap.size u w') (hv : w'.ownsRow u.heap.size 3 1 v R1.cells.length (R1.cells.map (Value.int .i64))) : DocPost (R1, 0) u (.returned (.tuple #[v, .agg #[.int .i64 R1.o0, .int .i64 R1.o1, .int .i64 R1.o2, .int .i64 R1.o3], .int .i64 R1.used, .int .i64 0])) w' :=
  ⟨hb, v, _, _, _, _, rfl, .inl ⟨rfl, rfl, rfl, rfl, rfl, hv⟩⟩
theorem docPost_err {R1 : St} {R2 : Int} {u w' : World} (h : R2 ≠ 0) (hb : Below u.heap.size u w') : DocPost (R1, R2) u (.returned (.tuple #[.slice none 0 0, .agg #[.int .i64 0, .int .i64 0, .int .i64 0, .int .i64 0], .int .i64 R1.used, .int .i64 R2])) w' :=
  ⟨hb, _, 0, 0, 0, 0, rfl, .inr ⟨h, rfl, rfl, rfl, rfl, rfl⟩⟩
theorem arr_eq {longer : Bool} {sb cb f fc : Nat} {codes : List (List Int)} {vs : List Value} {i0 i1 i2 i3 now p0 p1 p2 p3 : Int} {zs : List Int} {l n G lb Lc cg cc : Nat} (h1 : zs.length = n) (h2 : zs.length = (cellsOf (symsP longer)).length) :
    (#[.slice (some ⟨sb, 0, none⟩) 7 7, .slice (some ⟨cb, 0, none⟩) 2 2, .slice (some ⟨f, 0, none⟩) codes.length fc, .slice (some ⟨lb, 0, none⟩) n Lc, .slice (some ⟨cg, 0, none⟩) n cc, .int .i64 i0, .int .i64 i1, .int .i64 i2, .int .i64 i3, .int .i64 p0, .int .i64 p1, .int .i64 p2, .int .i64 p3, .int .i64 now, .int .i64 l, .int .i64 0] : Array Value) = RWho.arr ⟨G, G, atLay (envS longer sb cb f fc codes vs i0 i1 i2 i3 now) (some ⟨lb, 0, none⟩) Lc, some ⟨sb, 0, none⟩, 7, cg, cc⟩ ⟨zs, p0, p1, p2, p3, l, 0, []⟩ := by
  subst h1
  have e : (envS longer sb cb f fc codes vs i0 i1 i2 i3 now).lay.length = zs.length := h2.symm
  unfold RWho.arr rcells
  simp only [atLay]
  rw [e]
  rfl
theorem made_far {b B : Nat} (h : B < b) (e : some b = Value.ownBlock (.slice (some ⟨B, 0, none⟩) 0 0)) : False := by
  simp [Value.ownBlock] at e
  omega
theorem hb_le {u w w' : World} (_ : Below w.heap.size w w') (h : Below u.heap.size u w) : u.heap.size ≤ w.heap.size := h.size
/-- A row that lies from a block on. -/
theorem own_baseU {w : World} {b B g n c : Nat} {e : TypeId} {size : Nat} {xs : List Value} (h : w.ownsRow b e size (.slice (some ⟨g, 0, none⟩) n c) n xs) (hg : B ≤ g) : w.ownsRow B e size (.slice (some ⟨g, 0, none⟩) n c) n xs := by
  refine ⟨h.1, ?_⟩
  rcases h.2 with ⟨h0, _⟩ | ⟨g', cap, cur, hv, _, h3⟩
  · cases h0
  · have hv' := hv
    injection hv' with q; injection q with q; injection q with q
    subst q
    exact .inr ⟨g, cap, cur, hv, hg, h3⟩
set_option maxHeartbeats 8000000 in
set_option maxRecDepth 100000 in
theorem rsound_runO (longer : Bool) {sb cb f fc nf : Nat} {codes : List (List Int)} {vs : List Value} {u : World} (hs : Syms u u.heap.size (some ⟨sb, 0, none⟩) 7 (symsP longer)) (hk : Row u u.heap.size 1 (some ⟨cb, 0, none⟩) 2 (([7, -1] : List Int).map (Value.int .i64))) (hF : FuncsAt u f codes vs) (hfc : codes.length ≤ fc ∧ fc ≤ 9223372036854775807) (hcl : codes.length = nf + 1) (hnf : nf ≤ 2)
    (hm : ∀ (i : Nat) (b : List Int), codes[i]? = some b → CodeMade (cellsOf (symsP longer)) (if i = 0 then (nf : Int) else 0) b) (i0 i1 i2 i3 now p0 p1 p2 p3 : Int) (CA : Option Addr) (n CC : Nat) (zs : List Int) (hz : Row u u.heap.size 1 CA n (zs.map (Value.int .i64))) (hck : CellsK (cellsOf (symsP longer)) zs) (hzc : n ≤ CC) (B : Int) (hB : B ≤ 1000000) (hB0 : 0 ≤ B) :
    Calls Tryd.prog 23 #[.agg #[.slice (some ⟨sb, 0, none⟩) 7 7, .slice (some ⟨cb, 0, none⟩) 2 2, .slice (some ⟨f, 0, none⟩) codes.length fc], .slice CA n CC, .agg #[.int .i64 i0, .int .i64 i1, .int .i64 i2, .int .i64 i3], .agg #[.int .i64 p0, .int .i64 p1, .int .i64 p2, .int .i64 p3], .int .i64 now, .int .i64 B] u fun e w' =>
      DocPost (ranO (envS longer sb cb f fc codes vs i0 i1 i2 i3 now) zs p0 p1 p2 p3 (max B 0).toNat) u e w' := by
  obtain ⟨l, rfl⟩ : ∃ l : Nat, B = l := ⟨B.toNat, by omega⟩
  have hml : (max (l : Int) 0).toNat = l := by omega
  rw [hml]
  have hsl : (symsP longer).length = 7 := by cases longer <;> rfl
  have hcz := symsP_cells longer
  have hnz : zs.length = n := by have := hz.1; simp at this; omega
  have hlz := hck.len
  have hn0 : 0 < n := by omega
  have hn2 : n ≤ 200 := by omega
  have hbytes : ∀ b ∈ codes, ∀ x ∈ b, 0 ≤ x ∧ x < 256 := fun b hb => by
    obtain ⟨i, hi, rfl⟩ := List.getElem_of_mem hb
    exact (hm i _ (List.getElem?_eq_getElem hi)).bytes (symsP_kinds longer)
  have hlen : ∀ b ∈ codes, b.length ≤ 120 := fun b hb => by
    obtain ⟨i, hi, rfl⟩ := List.getElem_of_mem hb
    have := (hm i _ (List.getElem?_eq_getElem hi)).len
    omega
  have HI := Lib.hid (imgF (by rw [hsl]; exact hs) (by omega) (by omega) hk (by decide) hF hfc hbytes hlen i0 i1 i2 i3 now : Img u (envS longer sb cb f fc codes vs i0 i1 i2 i3 now) (some ⟨sb, 0, none⟩) 7 (symsP longer))
  have RC := Lib.hid (fun (W : World) (hb : Below u.heap.size u W) => (rcells_any (some ⟨sb, 0, none⟩) 7 7 (symsP longer) W ((hs.below hb).moreS hb.size) (by decide) (by decide) (by decide) (symsP_size longer)).mono (fun e w' (h : ∃ v, e = .returned v ∧ w'.ownsRow W.heap.size 42 6 v (cellsOf (symsP longer)).length (cellRow (cellsOf (symsP longer))) ∧ Below W.heap.size W w') => show ∃ lb Lc, e = .returned (.slice (some ⟨lb, 0, none⟩) n Lc) ∧ w'.ownsRow W.heap.size 42 6 (.slice (some ⟨lb, 0, none⟩) n Lc) n (cellRow (cellsOf (symsP longer))) ∧ Below W.heap.size W w' from by
    obtain ⟨v, h1, h2, h3⟩ := h
    rw [show (cellsOf (symsP longer)).length = n by omega] at h2
    obtain ⟨g, cap, rfl, _, _⟩ := h2.form hn0
    exact ⟨g, cap, h1, h2, h3⟩))
  obtain ⟨R, hR⟩ : ∃ R, ranO (envS longer sb cb f fc codes vs i0 i1 i2 i3 now) zs p0 p1 p2 p3 l = R := ⟨_, rfl⟩
  rw [hR]
  have HR := Lib.hid hR
  have HF12 := Lib.hid (show Funcs12 (cellsOf (symsP longer)) nf codes from ⟨hcl, hm⟩)
  have HS := Lib.hid hs
  have HZ := Lib.hid hz
  have HCK := Lib.hid hck
  have HNZ := Lib.hid hnz
  have HLZ0 := Lib.hid hlz
  have hcl0 : 0 < codes.length := by omega
  have hcl3 : codes.length ≤ 3 := by omega
  have HCL := Lib.hid hcl
  obtain ⟨ii, hi, hz0, hz1, hz2⟩ := info_parts machInt
  have tI := machTy
  clear hs hk hF hm hz hcl hR hck hnz hlz hcz hml hbytes hlen hsl
  go_enter Tryd.func23, Tryd.ntmps23
  go_upto_region 1 with fail
  obtain ⟨wb, hwb⟩ : ∃ x : World, x = ((((u.alloc (.cells #[.slice (some ⟨sb, 0, none⟩) 7 7, .slice (some ⟨cb, 0, none⟩) 2 2, .slice (some ⟨f, 0, none⟩) codes.length fc] 29)).alloc (.cells #[.int .i64 i0, .int .i64 i1, .int .i64 i2, .int .i64 i3] 23)).alloc
      (.cells #[.int .i64 p0, .int .i64 p1, .int .i64 p2, .int .i64 p3] 23)).alloc (.cells #[.int .i64 0, .int .i64 0, .int .i64 0, .int .i64 0] 23)) := ⟨_, rfl⟩
  have hsz : u.heap.size + 3 < wb.heap.size := by rw [hwb]; simp
  have hb0 : Below u.heap.size u wb := by rw [hwb]; exact (by solve | (repeat (first | (with_reducible exact HBnone) | (with_reducible exact HBnone) | (with_reducible exact Below.refl _ _) | (with_reducible refine Below.drew ?_) | (with_reducible refine below_dn _ ?_) | (with_reducible refine Below.alloc ?_ (by first | omega | (simp; done) | (simp; omega)) _))))
  have k0 : wb.cell? ⟨u.heap.size, 0, none⟩ = some (.slice (some ⟨sb, 0, none⟩) 7 7) := by rw [hwb]; go_simp
  have k1 : wb.cell? ⟨u.heap.size, 1, none⟩ = some (.slice (some ⟨cb, 0, none⟩) 2 2) := by rw [hwb]; go_simp
  have k2 : wb.cell? ⟨u.heap.size, 2, none⟩ = some (.slice (some ⟨f, 0, none⟩) codes.length fc) := by rw [hwb]; go_simp
  have l0 : wb.cell? ⟨u.heap.size + 1, 0, none⟩ = some (.int .i64 i0) := by rw [hwb]; go_simp
  have l1 : wb.cell? ⟨u.heap.size + 1, 1, none⟩ = some (.int .i64 i1) := by rw [hwb]; go_simp
  have l2 : wb.cell? ⟨u.heap.size + 1, 2, none⟩ = some (.int .i64 i2) := by rw [hwb]; go_simp
  have l3 : wb.cell? ⟨u.heap.size + 1, 3, none⟩ = some (.int .i64 i3) := by rw [hwb]; go_simp
  have m0 : wb.cell? ⟨u.heap.size + 1 + 1, 0, none⟩ = some (.int .i64 p0) := by rw [hwb]; go_simp
  have m1 : wb.cell? ⟨u.heap.size + 1 + 1, 1, none⟩ = some (.int .i64 p1) := by rw [hwb]; go_simp
  have m2 : wb.cell? ⟨u.heap.size + 1 + 1, 2, none⟩ = some (.int .i64 p2) := by rw [hwb]; go_simp
  have m3 : wb.cell? ⟨u.heap.size + 1 + 1, 3, none⟩ = some (.int .i64 p3) := by rw [hwb]; go_simp
  have hbt : wb.heap[u.heap.size + 1 + 1 + 1]? = some (.cells #[.int .i64 0, .int .i64 0, .int .i64 0, .int .i64 0] 23 (0, 0)) := by
    rw [hwb]
    exact alloc_blkAt _ _ _ _ (by simp)
  rw [← hwb]
  clear hwb
  have hsw : u.heap.size ≤ wb.heap.size := by omega
  go_cut [16] (fun v wx => RunCut (envS longer sb cb f fc codes vs i0 i1 i2 i3 now) (some ⟨sb, 0, none⟩) 7 ⟨zs, p0, p1, p2, p3, l, 0, []⟩ wb v wx)
  case first =>
    go_region_held3 (fun w' => w'.cell? ⟨u.heap.size, 0, none⟩ = some (.slice (some ⟨sb, 0, none⟩) 7 7) ∧ w'.cell? ⟨u.heap.size, 1, none⟩ = some (.slice (some ⟨cb, 0, none⟩) 2 2) ∧ w'.cell? ⟨u.heap.size, 2, none⟩ = some (.slice (some ⟨f, 0, none⟩) codes.length fc) ∧ w'.cell? ⟨u.heap.size + 1, 0, none⟩ = some (.int .i64 i0) ∧ w'.cell? ⟨u.heap.size + 1, 1, none⟩ = some (.int .i64 i1) ∧ w'.cell? ⟨u.heap.size + 1, 2, none⟩ = some (.int .i64 i2) ∧ w'.cell? ⟨u.heap.size + 1, 3, none⟩ = some (.int .i64 i3) ∧ w'.cell? ⟨u.heap.size + 1 + 1, 0, none⟩ = some (.int .i64 p0) ∧ w'.cell? ⟨u.heap.size + 1 + 1, 1, none⟩ = some (.int .i64 p1) ∧ w'.cell? ⟨u.heap.size + 1 + 1, 2, none⟩ = some (.int .i64 p2) ∧ w'.cell? ⟨u.heap.size + 1 + 1, 3, none⟩ = some (.int .i64 p3)) (first | exact keepRun (B := wb.heap.size) (u1 := wb) (by solve | (repeat (first | (with_reducible exact HB2.out) | (with_reducible exact HB3.out) | (with_reducible exact Below.refl _ _) | (with_reducible refine Below.drew ?_) | (with_reducible refine below_dn _ ?_) | (with_reducible refine Below.alloc ?_ (by first | omega | (simp; done) | (simp; omega)) _)))) (by omega) k0 k1 k2 l0 l1 l2 l3 m0 m1 m2 m3)
      (first
        | ((go_at_call 25; refine (RC.out _ (below3 hb0 hsw (by solve | (repeat (first | (with_reducible exact HB2.out) | (with_reducible exact HB3.out) | (with_reducible exact Below.refl _ _) | (with_reducible refine Below.drew ?_) | (with_reducible refine below_dn _ ?_) | (with_reducible refine Below.alloc ?_ (by first | omega | (simp; done) | (simp; omega)) _)))))).mono ?_; rintro e u3 ⟨lb, Lc, rfl, hl3, hb3⟩; have HL3 := Lib.hid hl3; have HLEB := Lib.hid (show wb.heap.size ≤ _ from (hb_le hb3 (by solve | (repeat (first | (with_reducible exact HB2.out) | (with_reducible exact HB3.out) | (with_reducible exact Below.refl _ _) | (with_reducible refine Below.drew ?_) | (with_reducible refine below_dn _ ?_) | (with_reducible refine Below.alloc ?_ (by first | omega | (simp; done) | (simp; omega)) _)))))); have HO3 := Lib.hid (own_bel HO2.out hb3); have z3 := hb3.size; (try simp at z3); have HB3 := Lib.hid (show Below wb.heap.size wb u3 from Below.trans (by solve | (repeat (first | (with_reducible exact HB2.out) | (with_reducible exact HB3.out) | (with_reducible exact Below.refl _ _) | (with_reducible refine Below.drew ?_) | (with_reducible refine below_dn _ ?_) | (with_reducible refine Below.alloc ?_ (by first | omega | (simp; done) | (simp; omega)) _)))) (hb3.mono (by first | omega | (simp; done) | (simp; omega)))); clear hl3 hb3))
        | ((go_at_call 25; refine (RC.out _ (below3 hb0 hsw (by solve | (repeat (first | (with_reducible exact HB2.out) | (with_reducible exact HB3.out) | (with_reducible exact Below.refl _ _) | (with_reducible refine Below.drew ?_) | (with_reducible refine below_dn _ ?_) | (with_reducible refine Below.alloc ?_ (by first | omega | (simp; done) | (simp; omega)) _)))))).mono ?_; rintro e u3 ⟨lb, Lc, rfl, hl3, hb3⟩; have HL3 := Lib.hid hl3; have HLEB := Lib.hid (show wb.heap.size ≤ _ from (hb_le hb3 (by solve | (repeat (first | (with_reducible exact HB2.out) | (with_reducible exact HB3.out) | (with_reducible exact Below.refl _ _) | (with_reducible refine Below.drew ?_) | (with_reducible refine below_dn _ ?_) | (with_reducible refine Below.alloc ?_ (by first | omega | (simp; done) | (simp; omega)) _)))))); have hmd : World.ownsRow _ wb.heap.size 3 1 (.slice (some ⟨wb.heap.size, 0, none⟩) 0 0) 0 [] := (World.ownsRow_made wb #[] 0 (Nat.le_refl _) (Nat.zero_le _) rfl); (first | have HMD := Lib.hid (own_bel hmd hb3) | have HMD := Lib.hid (own_bel (own_dr hmd) hb3)); have z3 := hb3.size; (try simp at z3); have HB3 := Lib.hid (show Below wb.heap.size wb u3 from Below.trans (by solve | (repeat (first | (with_reducible exact HB2.out) | (with_reducible exact HB3.out) | (with_reducible exact Below.refl _ _) | (with_reducible refine Below.drew ?_) | (with_reducible refine below_dn _ ?_) | (with_reducible refine Below.alloc ?_ (by first | omega | (simp; done) | (simp; omega)) _)))) (hb3.mono (by first | omega | (simp; done) | (simp; omega)))); clear hl3 hb3))
        | ((go_at_call 25; refine (RC.out _ (below3 hb0 hsw (by solve | (repeat (first | (with_reducible exact HB2.out) | (with_reducible exact HB3.out) | (with_reducible exact Below.refl _ _) | (with_reducible refine Below.drew ?_) | (with_reducible refine below_dn _ ?_) | (with_reducible refine Below.alloc ?_ (by first | omega | (simp; done) | (simp; omega)) _)))))).mono ?_; rintro e u3 ⟨lb, Lc, rfl, hl3, hb3⟩; have HL3 := Lib.hid hl3; have HLEB := Lib.hid (show wb.heap.size ≤ _ from (hb_le hb3 (by solve | (repeat (first | (with_reducible exact HB2.out) | (with_reducible exact HB3.out) | (with_reducible exact Below.refl _ _) | (with_reducible refine Below.drew ?_) | (with_reducible refine below_dn _ ?_) | (with_reducible refine Below.alloc ?_ (by first | omega | (simp; done) | (simp; omega)) _)))))); skip; have z3 := hb3.size; (try simp at z3); have HB3 := Lib.hid (show Below wb.heap.size wb u3 from Below.trans (by solve | (repeat (first | (with_reducible exact HB2.out) | (with_reducible exact HB3.out) | (with_reducible exact Below.refl _ _) | (with_reducible refine Below.drew ?_) | (with_reducible refine below_dn _ ?_) | (with_reducible refine Below.alloc ?_ (by first | omega | (simp; done) | (simp; omega)) _)))) (hb3.mono (by first | omega | (simp; done) | (simp; omega)))); clear hl3 hb3))
        | ((refine step_append_row _ rfl _ _ 22 rfl wb.heap.size 3 ii _ 1 8 tI hi hz0 hz1 hz2 rfl (by decide) (.slice (some ⟨wb.heap.size, 0, none⟩) 0 0) 0 [] rfl HMD.out _ CA n CC (zs.map (Value.int .i64)) rfl (HZ.out.below (below3 hb0 hsw (by solve | (repeat (first | (with_reducible exact HB2.out) | (with_reducible exact HB3.out) | (with_reducible exact Below.refl _ _) | (with_reducible refine Below.drew ?_) | (with_reducible refine below_dn _ ?_) | (with_reducible refine Below.alloc ?_ (by first | omega | (simp; done) | (simp; omega)) _)))))) (valInts_one _) (by unfold maxLen; omega) (by omega) (by first | omega | (simp; done) | (simp; omega)) ?_; intro v2 u2 hown hgrow hat; have HO2 := Lib.hid (show u2.ownsRow wb.heap.size 3 1 v2 n (zs.map (Value.int .i64)) by simpa using hown); have HLZ := Lib.hid (own_fr HL3.out (fun b hb => hgrow.block b (HL3.out.lt b hb).2 (fun e => made_far (Nat.lt_of_lt_of_le (by simp) (HL3.out.lt b hb).1) e))); have HB2 := Lib.hid (show Below wb.heap.size wb u2 from Below.grown (by solve | (repeat (first | (with_reducible exact HB2.out) | (with_reducible exact HB3.out) | (with_reducible exact Below.refl _ _) | (with_reducible refine Below.drew ?_) | (with_reducible refine below_dn _ ?_) | (with_reducible refine Below.alloc ?_ (by first | omega | (simp; done) | (simp; omega)) _)))) hgrow (by first | omega | (simp; done) | (simp; omega)) (by intro k hk; first | (simp [Value.ownBlock] at hk; done) | (simp [Value.ownBlock] at hk; omega) | (simp [Value.ownBlock] at hk; subst hk; simp) | (simp [Value.ownBlock] at hk; subst hk; omega))); obtain ⟨cg, cc, rfl, hcg1, hcg2⟩ := World.ownsRow.form HO2.out hn0; have z2 := hgrow.size; (try simp at z2); clear hown hgrow hat))
        | ((refine step_append_row _ rfl _ _ 22 rfl wb.heap.size 3 ii _ 1 8 tI hi hz0 hz1 hz2 rfl (by decide) (.slice (some ⟨u3.heap.size, 0, none⟩) 0 0) 0 [] rfl (by solve | (repeat (first | (with_reducible refine own_dr ?_) | exact World.ownsRow_made _ #[] 0 (by first | omega | (simp; done) | (simp; omega)) (Nat.zero_le _) rfl))) _ CA n CC (zs.map (Value.int .i64)) rfl (HZ.out.below (below3 hb0 hsw (by solve | (repeat (first | (with_reducible exact HB2.out) | (with_reducible exact HB3.out) | (with_reducible exact Below.refl _ _) | (with_reducible refine Below.drew ?_) | (with_reducible refine below_dn _ ?_) | (with_reducible refine Below.alloc ?_ (by first | omega | (simp; done) | (simp; omega)) _)))))) (valInts_one _) (by unfold maxLen; omega) (by omega) (by first | omega | (simp; done) | (simp; omega)) ?_; intro v2 u2 hown hgrow hat; have HO2 := Lib.hid (show u2.ownsRow wb.heap.size 3 1 v2 n (zs.map (Value.int .i64)) by simpa using hown); have HLZ := Lib.hid (own_bel HL3.out (Below.grown (by solve | (repeat (first | (with_reducible exact HBnone) | (with_reducible exact HBnone) | (with_reducible exact Below.refl _ _) | (with_reducible refine Below.drew ?_) | (with_reducible refine below_dn _ ?_) | (with_reducible refine Below.alloc ?_ (by first | omega | (simp; done) | (simp; omega)) _)))) hgrow (by first | omega | (simp; done) | (simp; omega)) (by intro k hk; simp [Value.ownBlock] at hk; omega))); have HB2 := Lib.hid (show Below wb.heap.size wb u2 from Below.grown (by solve | (repeat (first | (with_reducible exact HB2.out) | (with_reducible exact HB3.out) | (with_reducible exact Below.refl _ _) | (with_reducible refine Below.drew ?_) | (with_reducible refine below_dn _ ?_) | (with_reducible refine Below.alloc ?_ (by first | omega | (simp; done) | (simp; omega)) _)))) hgrow (by first | omega | (simp; done) | (simp; omega)) (by intro k hk; first | (simp [Value.ownBlock] at hk; done) | (simp [Value.ownBlock] at hk; omega) | (simp [Value.ownBlock] at hk; subst hk; simp) | (simp [Value.ownBlock] at hk; subst hk; omega))); obtain ⟨cg, cc, rfl, hcg1, hcg2⟩ := World.ownsRow.form HO2.out hn0; have z2 := hgrow.size; (try simp at z2); clear hown hgrow hat))
        | ((refine step_append_row _ rfl _ _ 22 rfl wb.heap.size 3 ii _ 1 8 tI hi hz0 hz1 hz2 rfl (by decide) (.slice (some ⟨wb.heap.size, 0, none⟩) 0 0) 0 [] rfl (by solve | (repeat (first | (with_reducible refine own_dr ?_) | exact World.ownsRow_made _ #[] 0 (by first | omega | (simp; done) | (simp; omega)) (Nat.zero_le _) rfl))) _ CA n CC (zs.map (Value.int .i64)) rfl (HZ.out.below (below3 hb0 hsw (by solve | (repeat (first | (with_reducible exact HB2.out) | (with_reducible exact HB3.out) | (with_reducible exact Below.refl _ _) | (with_reducible refine Below.drew ?_) | (with_reducible refine below_dn _ ?_) | (with_reducible refine Below.alloc ?_ (by first | omega | (simp; done) | (simp; omega)) _)))))) (valInts_one _) (by unfold maxLen; omega) (by omega) (by first | omega | (simp; done) | (simp; omega)) ?_; intro v2 u2 hown hgrow hat; have HO2 := Lib.hid (show u2.ownsRow wb.heap.size 3 1 v2 n (zs.map (Value.int .i64)) by simpa using hown); skip; have HB2 := Lib.hid (show Below wb.heap.size wb u2 from Below.grown (by solve | (repeat (first | (with_reducible exact HB2.out) | (with_reducible exact HB3.out) | (with_reducible exact Below.refl _ _) | (with_reducible refine Below.drew ?_) | (with_reducible refine below_dn _ ?_) | (with_reducible refine Below.alloc ?_ (by first | omega | (simp; done) | (simp; omega)) _)))) hgrow (by first | omega | (simp; done) | (simp; omega)) (by intro k hk; first | (simp [Value.ownBlock] at hk; done) | (simp [Value.ownBlock] at hk; omega) | (simp [Value.ownBlock] at hk; subst hk; simp) | (simp [Value.ownBlock] at hk; subst hk; omega))); obtain ⟨cg, cc, rfl, hcg1, hcg2⟩ := World.ownsRow.form HO2.out hn0; have z2 := hgrow.size; (try simp at z2); clear hown hgrow hat)))
    all_goals (try go_wp2_with fail)
    all_goals go_meet
    all_goals have hls : zs.length ≤ 1000000 := by have := HNZ.out; omega
    all_goals have hll : 0 + l ≤ 1000000 := by omega
    all_goals first
      | exact run_cut HI.out hb0 hsw HB2.out HLEB.out (Nat.le_refl _) (HNZ.out.symm.trans HLZ0.out) HNZ.out.symm HLZ.out HO2.out hll hls (arr_eq HNZ.out HLZ0.out)
      | exact run_cut HI.out hb0 hsw HB3.out HLEB.out (Nat.le_refl _) (HNZ.out.symm.trans HLZ0.out) HNZ.out.symm HL3.out HO3.out hll hls (arr_eq HNZ.out HLZ0.out)
  case rest =>
    obtain ⟨M, La, Lc, rfl, hME, hbx, hgx, hcx, hM⟩ := hcut
    generalize hwd : wc = wx at *
    clear hwd k0 k1 k2 l0 l1 l2 l3 m0 m1 m2 m3
    have hvx : wx.heap[u.heap.size + 1 + 1 + 1]? = some (.cells #[.int .i64 0, .int .i64 0, .int .i64 0, .int .i64 0] 23 (0, 0)) := (hbx.block _ (by omega)).trans hbt
    obtain ⟨b, hb0c⟩ : ∃ b, codes[0]? = some b := ⟨_, List.getElem?_eq_getElem hcl0⟩
    have hrun := rrun_any M (cellsOf (symsP longer)) (by rw [hME]; rfl) (by rw [hME]; rfl) (symsP_lay longer) nf (by rw [hME]; exact HF12.out) (l + 1) wx ⟨zs, p0, p1, p2, p3, l, 0, []⟩ 0 b hM (by rw [hME]; exact hb0c) HCK.out (Nat.lt_succ_self _)
    have hRR : execP M.E (l + 1) b 0 ⟨zs, p0, p1, p2, p3, l, 0, []⟩ = R := by
      rw [← HR.out, hME, execP_lay]
      unfold ranO
      rw [show (envS longer sb cb f fc codes vs i0 i1 i2 i3 now).funcs.getD 0 [] = b by show codes.getD 0 [] = b; rw [List.getD_eq_getElem?_getD, hb0c]; rfl]
    have hrun2 : Calls Tryd.prog 40 #[.pointer (some ⟨M.g, 0, none⟩), .int .i64 0] wx fun e w' => e = .returned (.int .i64 R.2) ∧ RMach M w' R.1 ∧ RFr M wx.heap.size wx w' := by
      rw [← hRR]
      exact hrun
    have RUN := Lib.hid hrun2
    have HBX := Lib.hid (below3 hb0 hsw hbx)
    have hxs := hbx.size
    have hux : u.heap.size ≤ wx.heap.size := by omega
    have hgwx := hM.gw
    have hug : u.heap.size + 1 + 1 + 1 < M.g := by omega
    have huc : u.heap.size + 1 + 1 + 1 < M.cg := by omega
    clear hrun hrun2 hRR hM hbx hb0 hbt
    obtain ⟨R1, R2⟩ := R
    by_cases hr0 : R2 = 0
    · subst hr0
      go_upto_region 5 with (go_at_call 40; refine RUN.out.mono ?_; rintro e w2 ⟨rfl, hM2, hF2⟩; have HM2 := Lib.hid hM2; have HF2 := Lib.hid hF2; clear hM2 hF2)
      have hvb : w2.heap[u.heap.size + 1 + 1 + 1]? = some (.cells #[.int .i64 0, .int .i64 0, .int .i64 0, .int .i64 0] 23 (0, 0)) := (HF2.out.block _ (by omega) (by omega) (by omega)).trans hvx
      have g4 : w2.cell? ⟨M.g, 4, none⟩ = some (.slice (some ⟨M.cg, 0, none⟩) R1.cells.length M.cc) := HM2.out.cell 4
      have g9 : w2.cell? ⟨M.g, 9, none⟩ = some (.int .i64 R1.o0) := HM2.out.cell 9
      have g10 : w2.cell? ⟨M.g, 10, none⟩ = some (.int .i64 R1.o1) := HM2.out.cell 10
      have g11 : w2.cell? ⟨M.g, 11, none⟩ = some (.int .i64 R1.o2) := HM2.out.cell 11
      have g12 : w2.cell? ⟨M.g, 12, none⟩ = some (.int .i64 R1.o3) := HM2.out.cell 12
      have g15 : w2.cell? ⟨M.g, 15, none⟩ = some (.int .i64 R1.used) := HM2.out.cell 15
      have v0 : ∀ j, w2.cell? ⟨u.heap.size + 1 + 1 + 1, j, none⟩ = (#[.int .i64 0, .int .i64 0, .int .i64 0, .int .i64 0] : Array Value)[j]? := fun j => cell_of_row w2 _ j _ _ (0, 0) hvb
      have vf : ∀ j, w2.frozen? ⟨u.heap.size + 1 + 1 + 1, j, none⟩ = false := fun j => by simp [World.frozen?, hvb]
      have hgne : ¬ M.g = u.heap.size + 1 + 1 + 1 := by omega
      have hgnf : ¬ u.heap.size + 1 + 1 + 1 = M.g := by omega
      have a0 := v0 0
      have a1 := v0 1
      have a2 := v0 2
      have a3 := v0 3
      have f0 := vf 0
      have f1 := vf 1
      have f2 := vf 2
      have f3 := vf 3
      simp at a0 a1 a2 a3
      clear v0 vf
      have hbF := rfr_below HBX.out HF2.out (show u.heap.size ≤ M.g by omega) (show u.heap.size ≤ M.cg by omega) hux
      have hgs : M.g < w2.heap.size := HM2.out.gw
      have hvs : u.heap.size + 1 + 1 + 1 < w2.heap.size := by omega
      go_region
      go_wp2_with fail
      have hO := own_baseU HM2.out.row (show u.heap.size ≤ M.cg by omega)
      have hA : Value.ownBlock (.slice (some ⟨M.cg, 0, none⟩) R1.cells.length M.cc) ≠ some (u.heap.size + 1 + 1 + 1) := fun e => by simp [Value.ownBlock] at e; omega
      all_goals refine bodyPost_ret (v := .tuple #[.slice (some ⟨M.cg, 0, none⟩) R1.cells.length M.cc, .agg #[.int .i64 R1.o0, .int .i64 R1.o1, .int .i64 R1.o2, .int .i64 R1.o3], .int .i64 R1.used, .int .i64 0]) (by simp [results, Tryd.results23, go_sem, a0, a1, a2, a3]) rfl (docPost_ok ?_ ?_)
      · repeat (first | (with_reducible exact hbF) | (with_reducible refine Below.drew ?_) | (with_reducible refine below_dn _ ?_) | (with_reducible refine Below.setCell ?_ (by first | omega | (simp; done) | (simp; omega)) _))
      · first | exact own_setFar (own_setFar (own_setFar (own_setFar hO hA _) hA _) hA _) hA _ | exact own_dr (own_setFar (own_setFar (own_setFar (own_setFar hO hA _) hA _) hA _) hA _)
    · have hr1 : (R2 == 0) = false := by simpa using hr0
      have hr2 : (R2 != 0) = true := by simpa using hr0
      go_upto_region 4 with (go_at_call 40; refine RUN.out.mono ?_; rintro e w2 ⟨rfl, hM2, hF2⟩; have HM2 := Lib.hid hM2; have HF2 := Lib.hid hF2; clear hM2 hF2)
      have hvb : w2.heap[u.heap.size + 1 + 1 + 1]? = some (.cells #[.int .i64 0, .int .i64 0, .int .i64 0, .int .i64 0] 23 (0, 0)) := (HF2.out.block _ (by omega) (by omega) (by omega)).trans hvx
      have g4 : w2.cell? ⟨M.g, 4, none⟩ = some (.slice (some ⟨M.cg, 0, none⟩) R1.cells.length M.cc) := HM2.out.cell 4
      have g9 : w2.cell? ⟨M.g, 9, none⟩ = some (.int .i64 R1.o0) := HM2.out.cell 9
      have g10 : w2.cell? ⟨M.g, 10, none⟩ = some (.int .i64 R1.o1) := HM2.out.cell 10
      have g11 : w2.cell? ⟨M.g, 11, none⟩ = some (.int .i64 R1.o2) := HM2.out.cell 11
      have g12 : w2.cell? ⟨M.g, 12, none⟩ = some (.int .i64 R1.o3) := HM2.out.cell 12
      have g15 : w2.cell? ⟨M.g, 15, none⟩ = some (.int .i64 R1.used) := HM2.out.cell 15
      have v0 : ∀ j, w2.cell? ⟨u.heap.size + 1 + 1 + 1, j, none⟩ = (#[.int .i64 0, .int .i64 0, .int .i64 0, .int .i64 0] : Array Value)[j]? := fun j => cell_of_row w2 _ j _ _ (0, 0) hvb
      have vf : ∀ j, w2.frozen? ⟨u.heap.size + 1 + 1 + 1, j, none⟩ = false := fun j => by simp [World.frozen?, hvb]
      have hgne : ¬ M.g = u.heap.size + 1 + 1 + 1 := by omega
      have hgnf : ¬ u.heap.size + 1 + 1 + 1 = M.g := by omega
      have a0 := v0 0
      have a1 := v0 1
      have a2 := v0 2
      have a3 := v0 3
      have f0 := vf 0
      have f1 := vf 1
      have f2 := vf 2
      have f3 := vf 3
      simp at a0 a1 a2 a3
      clear v0 vf
      have hbF := rfr_below HBX.out HF2.out (show u.heap.size ≤ M.g by omega) (show u.heap.size ≤ M.cg by omega) hux
      have hgs : M.g < w2.heap.size := HM2.out.gw
      have hvs : u.heap.size + 1 + 1 + 1 < w2.heap.size := by omega
      go_region
      go_wp2_with fail
      all_goals refine bodyPost_ret (v := .tuple #[.slice none 0 0, .agg #[.int .i64 0, .int .i64 0, .int .i64 0, .int .i64 0], .int .i64 R1.used, .int .i64 R2]) (by simp [results, Tryd.results23, go_sem, a0, a1, a2, a3]) rfl (docPost_err hr0 ?_)
      all_goals repeat (first | (with_reducible exact hbF) | (with_reducible refine Below.drew ?_) | (with_reducible refine below_dn _ ?_) | (with_reducible refine Below.setCell ?_ (by first | omega | (simp; done) | (simp; omega)) _))
end Go.Proofs.YtngobbbinacomaaDoor
