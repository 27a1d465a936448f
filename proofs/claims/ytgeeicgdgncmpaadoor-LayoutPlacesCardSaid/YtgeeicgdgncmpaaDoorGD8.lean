/- Chapter 8: the law's good variables, of any raw ones. -/
import Derived.Test.YtgeeicgdgncmpaaDoorQ8
import Derived.Test.YtgeeicgdgncmpaaDoorWrap
import Derived.Deep.DeepCutAuto
import Derived.Deep.RegionHeldLaw
namespace Go.Proofs.YtgeeicgdgncmpaaDoor
open Go.RowKit
set_option linter.unusedVariables false
set_option linter.unusedSimpArgs false
attribute [local go_sem ↓] Go.wp_at_zero Go.wp_at_succ

/-- A variable, and where its rows lie. -/
structure SymP where
  s : SymD
  Fa : Option Addr
  Fc : Nat
  Ia : Option Addr
  Ic : Nat
def symCells (p : SymP) : List Value := [.string p.s.name, .int .i64 p.s.kind, .int .i64 p.s.elem, .int .i64 p.s.n, .slice p.Fa p.s.fields.length p.Fc, .bool p.s.retain, .slice p.Ia p.s.init.length p.Ic]
def symRow (l : List SymP) : List Value := l.flatMap symCells
theorem symCells_length (p : SymP) : (symCells p).length = 7 := rfl
theorem symCells_one (p : SymP) : ∀ u ∈ symCells p, u.oneCell' = true := by
  intro u hu; simp [symCells] at hu; rcases hu with rfl | rfl | rfl | rfl | rfl | rfl | rfl <;> rfl
theorem symRow_snoc (l : List SymP) (p : SymP) : symRow (l ++ [p]) = symRow l ++ symCells p := by simp [symRow]
structure KeptSym (w : World) (B : Nat) (p : SymP) : Prop where
  f : w.ownsRow B 39 2 (.slice p.Fa p.s.fields.length p.Fc) p.s.fields.length (fieldRow p.s.fields)
  i : w.ownsRow B 3 1 (.slice p.Ia p.s.init.length p.Ic) p.s.init.length (p.s.init.map (Value.int .i64))
theorem KeptSym.below {w w' : World} {B : Nat} {p : SymP} (h : KeptSym w B p) (hb : Below w.heap.size w w') : KeptSym w' B p := ⟨row_keep h.f hb, row_keep h.i hb⟩
theorem KeptSym.grown {w w' : World} {B base : Nat} {p : SymP} {v : Value} {n : Nat} {xs : List Value} (h : KeptSym w B p) (ho : w.ownsRow base 34 7 v n xs) (hg : w.grownBy w' v.ownBlock) : KeptSym w' B p :=
  ⟨h.f.kept hg (owns_diff h.f ho (by decide)), h.i.kept hg (owns_diff h.i ho (by decide))⟩
theorem KeptSym.mono {w : World} {B B' : Nat} {p : SymP} (h : KeptSym w B p) (hb : B' ≤ B) : KeptSym w B' p := ⟨own_mono8 h.f hb, own_mono8 h.i hb⟩
/-- A variable such as may be. -/
structure GoodS (s : SymD) : Prop where
  name : s.name.size = 2
  typ : GoodT s.kind s.n s.fields
  size : s.size = s.init.length

/-- A variable's box. -/
structure SymBox (w : World) (g : Nat) (nm : ByteArray) (k e n : Int) (F : Value) (rt : Bool) (I : Value) : Prop where
  c0 : w.cell? ⟨g, 0, none⟩ = some (.string nm)
  c1 : w.cell? ⟨g, 1, none⟩ = some (.int .i64 k)
  c2 : w.cell? ⟨g, 2, none⟩ = some (.int .i64 e)
  c3 : w.cell? ⟨g, 3, none⟩ = some (.int .i64 n)
  c4 : w.cell? ⟨g, 4, none⟩ = some F
  c5 : w.cell? ⟨g, 5, none⟩ = some (.bool rt)
  c6 : w.cell? ⟨g, 6, none⟩ = some I
  f5 : w.frozen? ⟨g, 5, none⟩ = false
  f6 : w.frozen? ⟨g, 6, none⟩ = false
theorem SymBox.keep {w w' : World} {g : Nat} {nm : ByteArray} {k e n : Int} {F : Value} {rt : Bool} {I : Value} (h : SymBox w g nm k e n F rt I) (hb : w'.heap[g]? = w.heap[g]?) : SymBox w' g nm k e n F rt I :=
  ⟨(World.cell?_of_block (a := ⟨g, 0, none⟩) hb).trans h.c0, (World.cell?_of_block (a := ⟨g, 1, none⟩) hb).trans h.c1, (World.cell?_of_block (a := ⟨g, 2, none⟩) hb).trans h.c2, (World.cell?_of_block (a := ⟨g, 3, none⟩) hb).trans h.c3, (World.cell?_of_block (a := ⟨g, 4, none⟩) hb).trans h.c4, (World.cell?_of_block (a := ⟨g, 5, none⟩) hb).trans h.c5, (World.cell?_of_block (a := ⟨g, 6, none⟩) hb).trans h.c6, (World.frozen?_of_block (a := ⟨g, 5, none⟩) hb).trans h.f5, (World.frozen?_of_block (a := ⟨g, 6, none⟩) hb).trans h.f6⟩

def Good8Rel (w : World) (l : List SymD) (o nn kk i : Value) (wr : World) : Prop :=
  ∃ (j : Nat) (ps : List SymP) (n k : Int), i = .int .i64 j ∧ j ≤ l.length ∧ j ≤ 10 ∧ ps.length ≤ j ∧ nn = .int .i64 n ∧ (0 ≤ n ∧ n ≤ 64) ∧ kk = .int .i64 k ∧ (0 ≤ k ∧ k ≤ 24) ∧ wr.ownsRow w.heap.size 34 7 o ps.length (symRow ps) ∧ (∀ p ∈ ps, KeptSym wr w.heap.size p ∧ GoodS p.s) ∧ Below w.heap.size w wr
def Good8Back (w : World) (e : Ending) (w' : World) : Prop :=
  ∃ (v : Value) (ps : List SymP), e = .returned v ∧ w'.ownsRow w.heap.size 34 7 v ps.length (symRow ps) ∧ (∀ p ∈ ps, KeptSym w' w.heap.size p ∧ GoodS p.s) ∧ ps.length ≤ 10 ∧ Below w.heap.size w w'
theorem symInfo8 : (Tryd.prog.info? 34).map (fun i => (i.zero, i.size, i.bytes)) = some (some (.agg #[.string { data := #[] }, .int .i64 0, .int .i64 0, .int .i64 0, .slice none 0 0, .bool false, .slice none 0 0]), 7, 96) := by kernel_rfl
theorem symTy8 : Tryd.prog.underlying 22 = some (.slice 34) := by kernel_rfl
theorem keep5 {u1 W' : World} {B b o : Nat} {v1 v2 v3 v4 v5 : Value} (hb : Below B u1 W') (h : b < B) (k1 : u1.cell? ⟨b, o + 1, none⟩ = some v1) (k2 : u1.cell? ⟨b, o + 2, none⟩ = some v2) (k3 : u1.cell? ⟨b, o + 3, none⟩ = some v3) (k4 : u1.cell? ⟨b, o + 4, none⟩ = some v4) (k5 : u1.cell? ⟨b, o + 5, none⟩ = some v5) :
    W'.cell? ⟨b, o + 1, none⟩ = some v1 ∧ W'.cell? ⟨b, o + 2, none⟩ = some v2 ∧ W'.cell? ⟨b, o + 3, none⟩ = some v3 ∧ W'.cell? ⟨b, o + 4, none⟩ = some v4 ∧ W'.cell? ⟨b, o + 5, none⟩ = some v5 :=
  ⟨(dcell hb h _).trans k1, (dcell hb h _).trans k2, (dcell hb h _).trans k3, (dcell hb h _).trans k4, (dcell hb h _).trans k5⟩
def isU8 : Option Value → Bool
  | some (.int .u8 _) => true
  | _ => false
def u8of : Option Value → Int
  | some (.int .u8 q) => q
  | _ => 0
theorem isU8_some (q : Int) : isU8 (some (.int .u8 q)) = true := rfl
theorem u8of_some (q : Int) : u8of (some (.int .u8 q)) = q := rfl
theorem convert_one (W : World) (g : Nat) (h : isU8 (W.cell? ⟨g, 0, none⟩) = true) : (convert 40 9 (.slice (some ⟨g, 0, none⟩) 1 1)).run Tryd.prog W = .ok (.string (strOfNums [u8of (W.cell? ⟨g, 0, none⟩)])) W := by
  obtain ⟨q, hq⟩ : ∃ q, W.cell? ⟨g, 0, none⟩ = some (.int .u8 q) := by
    revert h
    unfold isU8
    split
    · rename_i q hq; intro _; exact ⟨q, hq⟩
    · intro h; cases h
  rw [hq]
  exact run_convert_bytes_arg (P := Tryd.prog) W 40 5 Tryd.underlying40 Tryd.underlying5 g 0 1 1 [q] rfl (fun i hi => by
    obtain rfl : i = 0 := by omega
    exact hq) 9 Tryd.underlying9
attribute [local go_sem] isU8_some u8of_some convert_one
theorem own_ne {w : World} {base : Nat} {e : TypeId} {size n : Nat} {v : Value} {xs : List Value} (h : w.ownsRow base e size v n xs) : ∀ b, b < base → v.ownBlock ≠ some b := fun b hb e => by have := (h.lt _ e).1; omega
theorem own_zeros {w : World} {q : Nat} (h : w.heap.size = q) (z : Nat) (hz : z ≤ maxLen) : (w.alloc (.cells (zeros z) 3)).ownsRow q 3 1 (.slice (some ⟨q, 0, none⟩) z z) z ((List.replicate z (0 : Int)).map (Value.int .i64)) :=
  ⟨by simp, .inr ⟨q, z, zeros z, rfl, Nat.le_refl _, heap_newN _ h, Nat.le_refl _, hz, by simp [zeros], by simp [zeros]⟩⟩
/-- A row of one variable, made anew. -/
theorem one_sym {w u : World} {q : Nat} {nm : ByteArray} {k e n : Int} {l : List FieldD} {rt : Bool} {xs : List Int} {Fa Ia : Option Addr} {Fc Ic : Nat} (hf : w.ownsRow 0 39 2 (.slice Fa l.length Fc) l.length (fieldRow l)) (hi : w.ownsRow 0 3 1 (.slice Ia xs.length Ic) xs.length (xs.map (Value.int .i64)))
    (ok : (SymD.mk nm k e n l rt xs).Ok) (hfc : l.length ≤ Fc ∧ Fc ≤ 9223372036854775807) (hic : xs.length ≤ Ic ∧ Ic ≤ 9223372036854775807) (hb : Below w.heap.size w u) (hq : q < u.heap.size)
    (c0 : u.cell? ⟨q, 0, none⟩ = some (.string nm)) (c1 : u.cell? ⟨q, 1, none⟩ = some (.int .i64 k)) (c2 : u.cell? ⟨q, 2, none⟩ = some (.int .i64 e)) (c3 : u.cell? ⟨q, 3, none⟩ = some (.int .i64 n)) (c4 : u.cell? ⟨q, 4, none⟩ = some (.slice Fa l.length Fc)) (c5 : u.cell? ⟨q, 5, none⟩ = some (.bool rt)) (c6 : u.cell? ⟨q, 6, none⟩ = some (.slice Ia xs.length Ic)) :
    Syms u u.heap.size (some ⟨q, 0, none⟩) 1 [⟨nm, k, e, n, l, rt, xs⟩] := by
  refine ⟨rfl, fun _ => ⟨q, 0, rfl, hq, fun i s hi' => ?_⟩, fun s hs => by simp at hs; subst hs; exact ok⟩
  have hi0 : i = 0 := by have := (List.getElem?_eq_some_iff.1 hi').1; simpa using this
  subst hi0
  obtain rfl : SymD.mk nm k e n l rt xs = s := by simpa using hi'
  exact ⟨Fa, Fc, Ia, Ic, c0, c1, c2, c3, c4, c5, c6, Row.of_own (row_keep hf hb), hfc.1, hfc.2, Row.of_own (row_keep hi hb), hic.1, hic.2⟩
/-- A world that differs in one block alone. -/
structure Only (ib : Nat) (a b : World) : Prop where
  below : Below ib a b
  block : ∀ x, x ≠ ib → x < a.heap.size → b.heap[x]? = a.heap[x]?
theorem Only.refl (ib : Nat) (a : World) : Only ib a a := ⟨Below.refl _ _, fun _ _ _ => rfl⟩
theorem Only.set {ib : Nat} {a b : World} (h : Only ib a b) (j : Nat) (u : Value) : Only ib a (b.setCell ⟨ib, j, none⟩ u) :=
  ⟨h.below.setCell (Nat.le_refl _) _, fun x hx hs => (Below.heap_setCell b ⟨ib, j, none⟩ u x hx).trans (h.block x hx hs)⟩
theorem Only.drew {ib : Nat} {a b : World} (h : Only ib a b) : Only ib a b.drew := ⟨h.below.drew, h.block⟩
theorem Only.own {ib : Nat} {a b : World} {base : Nat} {e : TypeId} {size n : Nat} {v : Value} {xs : List Value} (h : Only ib a b) (ho : a.ownsRow base e size v n xs) (hv : v.ownBlock ≠ some ib) : b.ownsRow base e size v n xs :=
  ho.kept (row := some ib) ⟨h.below.os, h.below.tape, h.below.output, h.below.size, fun k hk hne => h.block k (fun e => hne (by rw [e])) hk⟩ (.inr hv)
def Fill8Rel (w10 : World) (ib z base : Nat) (k : Value) (wx : World) : Prop :=
  ∃ (q : Nat) (vs : List Int), k = .int .i64 q ∧ q ≤ z ∧ vs.length = z ∧ wx.ownsRow ib 3 1 (.slice (some ⟨ib, 0, none⟩) z z) z (vs.map (Value.int .i64)) ∧ Only ib w10 wx
theorem blk_set {w : World} {g : Nat} {t : TypeId} {cs : Array Value} (h : w.heap[g]? = some (.cells cs t (0, 0))) (j : Nat) (u : Value) : (w.setCell ⟨g, j, none⟩ u).heap[g]? = some (.cells (cs.setIfInBounds j u) t (0, 0)) := heap_setCell_same w g j cs t u h
theorem own_setIn {w : World} {base g n cap j : Nat} {e : TypeId} {xs : List Value} (h : w.ownsRow base e 1 (.slice (some ⟨g, 0, none⟩) n cap) n xs) (hj : j < n) (u : Value) : (w.setCell ⟨g, j, none⟩ u).ownsRow base e 1 (.slice (some ⟨g, 0, none⟩) n cap) n (xs.set j u) := by
  refine ⟨by simpa using h.1, ?_⟩
  rcases h.2 with ⟨h0, _⟩ | ⟨g', cap', cur, hv, hb, hg, h1, h2, h3, h4⟩
  · cases h0
  · injection hv with e1 e2 e3
    injection e1 with e1
    injection e1 with e1
    subst e1 e3
    refine .inr ⟨g, cap, cur.setIfInBounds j u, rfl, hb, blk_set hg j u, h1, h2, by simpa using h3, ?_⟩
    rw [Array.toList_setIfInBounds, ← h4, List.take_set]
theorem own_cellJ {w : World} {base g n cap j : Nat} {e : TypeId} {xs : List Value} (h : w.ownsRow base e 1 (.slice (some ⟨g, 0, none⟩) n cap) n xs) {u : Value} (hu : xs[j]? = some u) : w.cell? ⟨g, j, none⟩ = some u ∧ w.frozen? ⟨g, j, none⟩ = false := by
  refine ⟨?_, ?_⟩
  · have h' := h.cells rfl j u hu
    rw [Addr.add_lit] at h'
    simpa using h'
  · rcases h.2 with ⟨h0, _⟩ | ⟨g', cap', cur, hv, hb, hg, _⟩
    · cases h0
    · injection hv with e1 e2 e3
      injection e1 with e1
      injection e1 with e1
      subst e1
      exact frozen_of_row w g j _ _ hg

theorem new_sym {w : World} {B : Nat} {nm : ByteArray} {k e n : Int} {l : List FieldD} {rt : Bool} {vs : List Int} {Fa Ia : Option Addr} {Fc Ic : Nat} (hf : w.ownsRow B 39 2 (.slice Fa l.length Fc) l.length (fieldRow l)) (hi : w.ownsRow B 3 1 (.slice Ia vs.length Ic) vs.length (vs.map (Value.int .i64)))
    (hn : nm.size = 2) (hg : GoodT k n l) (hz : sizeOf8 k n l = (vs.length : Int)) : KeptSym w B ⟨⟨nm, k, e, n, l, rt, vs⟩, Fa, Fc, Ia, Ic⟩ ∧ GoodS ⟨nm, k, e, n, l, rt, vs⟩ := ⟨⟨hf, hi⟩, ⟨hn, hg, hz⟩⟩
theorem news7 {W : World} {g : Nat} {a0 a1 a2 a3 a4 a5 a6 : Value} (h0 : W.cell? ⟨g, 0, none⟩ = some a0) (h1 : W.cell? ⟨g, 1, none⟩ = some a1) (h2 : W.cell? ⟨g, 2, none⟩ = some a2) (h3 : W.cell? ⟨g, 3, none⟩ = some a3) (h4 : W.cell? ⟨g, 4, none⟩ = some a4) (h5 : W.cell? ⟨g, 5, none⟩ = some a5) (h6 : W.cell? ⟨g, 6, none⟩ = some a6) :
    ∀ (j : Nat) (u : Value), [a0, a1, a2, a3, a4, a5, a6][j]? = some u → W.cell? ((⟨g, 0, none⟩ : Addr).add j) = some u := by
  intro j u hj
  rw [Addr.add_lit, Nat.zero_add]
  have hj' : j < 7 := by have := (List.getElem?_eq_some_iff.1 hj).1; simpa using this
  rcases (show j = 0 ∨ j = 1 ∨ j = 2 ∨ j = 3 ∨ j = 4 ∨ j = 5 ∨ j = 6 by omega) with rfl | rfl | rfl | rfl | rfl | rfl | rfl <;> (simp at hj; subst hj; assumption)
theorem strOne {q : Int} : (strOfNums [q]).size = 1 := by rw [strOfNums_size]; rfl

set_option maxHeartbeats 16000000 in
set_option maxRecDepth 100000 in
theorem good8_any (A : Option Addr) (n c : Nat) (l : List SymD) (w : World) (hs : SymsRaw w w.heap.size A n l) (hc : n ≤ c) (hcm : c ≤ 9223372036854775807) (hsm : ∀ s ∈ l, s.Small) :
    Calls Tryd.prog 7 #[.slice A n c] w (Good8Back w) := by
  obtain rfl := hs.len
  have HS := Lib.hid hs
  have HSM := Lib.hid hsm
  have hc1 : (l.length : Int) ≤ c := by omega
  have hc2 : (c : Int) ≤ 9223372036854775807 := by omega
  clear hs hsm
  go_enter Tryd.func7, Tryd.ntmps7
  go_wp2_with fail
  go_loopw [3, 4, 5, 6] (fun o nn kk i wr => Good8Rel w l o nn kk i wr) (fun _ _ _ i _ => l.length - (intOf i).toNat)
  case atStart => exact ⟨0, [], 0, 0, rfl, Nat.zero_le _, by omega, Nat.zero_le _, rfl, by omega, rfl, by omega, World.ownsRow_nil _ _ _ _, by simp, Below.refl _ _⟩
  case round =>
    obtain ⟨j, ps, nn, kp, rfl, hj, hj10, hpj, rfl, ⟨hn0, hn64⟩, rfl, ⟨hk0, hk24⟩, hown, hps, hb⟩ := hrel
    obtain ⟨OA, OC, rfl, hoc, hom⟩ := own_slice hown
    unfold maxLen at hom
    have HO := Lib.hid hown
    have HPS := Lib.hid hps
    have HB := Lib.hid hb
    have hzw := hb.size
    clear hown hps
    by_cases hend : j < l.length ∧ j < 10
    · obtain ⟨hjl, hjt⟩ := hend
      have hjl' : (j : Int) < l.length := by omega
      have hjt' : (j : Int) < 10 := by omega
      have hj00 : (0 : Int) ≤ j := by omega
      obtain ⟨s, hx⟩ : ∃ s, l[j]? = some s := ⟨_, List.getElem?_eq_getElem hjl⟩
      obtain ⟨b, off, rfl, hbl, hcell⟩ := HS.out.at_ (by omega)
      have hsa := (hcell j s hx).below hb hbl
      have HSA := Lib.hid hsa
      obtain ⟨Fa, Fc, Ia, Ic, c0, c1, c2, c3, c4, c5, c6, hF, hF1, hF2, hI, hI1, hI2⟩ := hsa
      have hsmall := HSM.out s (List.mem_of_getElem? hx)
      have GG := Lib.hid (fun u (h : Row u u.heap.size 2 Fa s.fields.length (fieldRow s.fields)) => good7_any s.kind s.elem s.n Fa s.fields.length Fc s.fields u h rfl hF1 hF2)
      have HFR := Lib.hid (hF.more hzw)
      have HIR := Lib.hid hI
      have hbw : b < wr.heap.size := by omega
      have hi1 : IntKind.i64.wrap (97 + (j : Int)) = 97 + j := by simp [IntKind.wrap, IntKind.bits, IntKind.signed]; omega
      have hi2 : IntKind.u8.wrap (97 + (j : Int)) = 97 + j := by simp [IntKind.wrap, IntKind.bits, IntKind.signed]; omega
      have hD1 : (strOfNums [97 + (j : Int)]).size = 1 := strOne
      obtain ⟨D, hDD⟩ : ∃ D, strOfNums [97 + (j : Int)] = D := ⟨_, rfl⟩
      rw [hDD] at hD1
      have hD2 : ¬ 9223372036854775807 < 1 + D.size := by omega
      have HD := Lib.hid hD1
      have HSMALL := Lib.hid hsmall
      clear hcell hx hb hF hI hsmall hF1 hF2 hI1 hI2 hD1
      have hbx1 : b < wr.heap.size + 1 := by omega
      have hbx2 : b < wr.heap.size + 1 + 1 := by omega
      have hbn0 : ¬ b = wr.heap.size := by omega
      have hbn1 : ¬ b = wr.heap.size + 1 := by omega
      go_upto_region 6 with fail
      go_cut [7] (fun p wx => ∃ (g : Nat) (k1 e1 n1 : Int) (l' : List FieldD) (FA : Option Addr) (FC : Nat), p = .pointer (some ⟨g, 0, none⟩) ∧ wr.heap.size ≤ g ∧ SymBox wx g ({ data := #[118] } ++ D) k1 e1 n1 (.slice FA l'.length FC) s.retain (.slice none 0 0) ∧ wx.ownsRow wr.heap.size 39 2 (.slice FA l'.length FC) l'.length (fieldRow l') ∧ (Value.slice FA l'.length FC).ownBlock ≠ some g ∧ GoodT k1 n1 l' ∧ Below wr.heap.size wr wx)
      case first =>
        go_region_held_law (fun w' => w'.cell? ⟨b, off + j * 7 + 1, none⟩ = some (.int .i64 s.kind) ∧ w'.cell? ⟨b, off + j * 7 + 2, none⟩ = some (.int .i64 s.elem) ∧ w'.cell? ⟨b, off + j * 7 + 3, none⟩ = some (.int .i64 s.n) ∧ w'.cell? ⟨b, off + j * 7 + 4, none⟩ = some (.slice Fa s.fields.length Fc) ∧ w'.cell? ⟨b, off + j * 7 + 5, none⟩ = some (.bool s.retain)) (first | exact keep5 (B := wr.heap.size) (u1 := wr) (by repeat (first | (with_reducible exact HB2.out) | (with_reducible exact Below.refl _ _) | (with_reducible refine Below.setCell ?_ (by first | omega | (simp; done) | (simp; omega)) _) | (with_reducible refine Below.drew ?_) | (with_reducible refine Below.alloc ?_ (by first | omega | (simp; done) | (simp; omega)) _))) hbw c1 c2 c3 c4 c5 | go_keep)
          ((go_at_call 13; refine (GG.out _ ((HFR.out.below (by repeat (first | (with_reducible exact Below.refl _ _) | (with_reducible refine Below.drew ?_) | (with_reducible refine Below.alloc ?_ (by first | omega | (simp; done) | (simp; omega)) _)))).more (by first | omega | (simp; done) | (simp; omega)))).mono ?_; rintro e' u2 ⟨k1, e1, n1, l', v1, rfl, hgt, hown2, hb2⟩; have z2 := hb2.size; (try simp at z2); have HB2 := Lib.hid (show Below wr.heap.size wr u2 from Below.trans (by repeat (first | (with_reducible exact Below.refl _ _) | (with_reducible refine Below.drew ?_) | (with_reducible refine Below.alloc ?_ (by first | omega | (simp; done) | (simp; omega)) _))) (hb2.mono (by first | omega | (simp; done) | (simp; omega)))); obtain ⟨FA, FC, rfl, _, _⟩ := own_slice hown2; have HO2 := Lib.hid (own_mono8 (b' := wr.heap.size) hown2 (by first | omega | (simp; done) | (simp; omega))); have HGT := Lib.hid hgt; have HNB := Lib.hid (own_ne hown2); (try have p2z0 : wr.heap.size < u2.heap.size := by omega); (try have p2z1 : wr.heap.size + 1 < u2.heap.size := by omega); (try have p2v0 : ¬ u2.heap.size = wr.heap.size := by omega); (try have p2u0 : ¬ wr.heap.size = u2.heap.size := by omega); (try have p2v1 : ¬ u2.heap.size = wr.heap.size + 1 := by omega); (try have p2u1 : ¬ wr.heap.size + 1 = u2.heap.size := by omega); (try have p2c0 := dcell hb2 (b := wr.heap.size) (by first | omega | (simp; done) | (simp; omega))); (try have p2f0 := dfroz hb2 (b := wr.heap.size) (by first | omega | (simp; done) | (simp; omega))); (try have p2c1 := dcell hb2 (b := wr.heap.size + 1) (by first | omega | (simp; done) | (simp; omega))); (try have p2f1 := dfroz hb2 (b := wr.heap.size + 1) (by first | omega | (simp; done) | (simp; omega))); clear hb2 hown2 hgt))
        all_goals (try go_wp2_with fail)
        all_goals go_meet
        all_goals refine ⟨_, k1, e1, n1, l', FA, FC, rfl, by first | omega | (simp; done) | (simp; omega), ⟨by go_simp, by go_simp, by go_simp, by go_simp, by go_simp, by go_simp, by go_simp, by go_simp, by go_simp⟩, ?_, ?_, HGT.out, ?_⟩
        all_goals first
          | (repeat (first | (with_reducible exact HO2.out) | (with_reducible refine World.ownsRow.alloc ?_ _) | (with_reducible refine World.ownsRow.drew ?_) | (refine own_setFar8 ?_ (by first | exact HNB.out _ (by first | omega | (simp; done) | (simp; omega))) _))) <;> done
          | (repeat (first | (with_reducible exact HB2.out) | (with_reducible exact Below.refl _ _) | (with_reducible refine Below.setCell ?_ (by first | omega | (simp; done) | (simp; omega)) _) | (with_reducible refine Below.drew ?_) | (with_reducible refine Below.alloc ?_ (by first | omega | (simp; done) | (simp; omega)) _))) <;> done
          | exact HNB.out _ (by first | omega | (simp; done) | (simp; omega))
          | (intro e; have hh := (HO2.out.lt _ e).2; omega)
      case rest =>
        obtain ⟨g, k1, e1, n1, l', FA, FC, rfl, hg, hbox, hf, hfg, hgt, hb6⟩ := hcut
        generalize hwd : wc = w6 at *
        clear hwd
        have hgz : g < w6.heap.size := (spot_lt hbox.c0).2
        have hz6 := hb6.size
        have hgs := hgt.size
        have hl4 := hgt.len
        obtain ⟨_, FC', hvf, hfc, hfm⟩ := own_slice hf
        obtain rfl : FC = FC' := by injection hvf
        unfold maxLen at hfm
        have SZ := Lib.hid (fun u (h : Row u u.heap.size 2 FA l'.length (fieldRow l')) => rsizeT_any k1 e1 n1 FA l'.length FC l' u h (by omega) rfl hfc (by omega))
        have HSZ := Lib.hid (show sizeOf8 k1 n1 l' = sizeOf8 k1 n1 l' from rfl)
        obtain ⟨z, hzz⟩ : ∃ z : Nat, sizeOf8 k1 n1 l' = (z : Int) := ⟨(sizeOf8 k1 n1 l').toNat, by omega⟩
        rw [hzz] at SZ hgs
        have HZZ := Lib.hid hzz
        have hz1 : 1 ≤ z := by omega
        have hz8 : z ≤ 8 := by omega
        have hz8' : (z : Int) ≤ 8 := by omega
        have hz1' : (1 : Int) ≤ z := by omega
        have HF := Lib.hid hf
        have HFG := Lib.hid hfg
        have HGT := Lib.hid hgt
        have HB6 := Lib.hid hb6
        have HBOX := Lib.hid hbox
        obtain ⟨x0, x1, x2, x3, x4, x5, x6, xf5, xf6⟩ := hbox
        clear hf hfg hgt hb6 hzz hvf c0 c1 c2 c3 c4 c5 c6 hgs hbx1 hbx2 hbn0 hbn1 hi1 hi2 GG
        go_wp2_with fail
        refine (SZ.out _ (Row.of_own HF.out)).mono ?_
        rintro e' u7 ⟨rfl, hb7⟩
        have hz7 := hb7.size
        have HBX7 := Lib.hid (HBOX.out.keep (hb7.block g hgz))
        have HF7 := Lib.hid (row_keep HF.out hb7)
        have HB7 := Lib.hid (HB6.out.trans (hb7.mono hz6))
        obtain ⟨y0, y1, y2, y3, y4, y5, y6, yf5, yf6⟩ := HBX7.out
        generalize hrt0 : s.retain = rt0 at *
        clear hb7 x0 x1 x2 x3 x4 x5 x6 xf5 xf6 SZ
        go_upto_region 8 with fail
        go_cut [50] (fun q wx => (∃ qb : Bool, q = .bool qb ∧ (qb = false → rt0 = true → kp + z ≤ 24)) ∧ u7 = wx)
        case first =>
          cases rt0 with
          | false =>
            go_wp2
            go_meet
            exact ⟨⟨_, rfl, fun _ h => by (cases h)⟩, rfl⟩
          | true =>
            go_wp2
            go_meet
            exact ⟨⟨_, rfl, fun h _ => by (simp at h; omega)⟩, rfl⟩
        case rest =>
        obtain ⟨⟨qb, rfl, hqb⟩, rfl⟩ := hcut
        have HQ := Lib.hid hqb
        clear hqb
        go_upto_if 50 with fail
        go_cut [] (fun wx => ∃ rt : Bool, SymBox wx g ({ data := #[118] } ++ D) k1 e1 n1 (.slice FA l'.length FC) rt (.slice none 0 0) ∧ (rt = true → kp + z ≤ 24) ∧ wx.ownsRow wr.heap.size 39 2 (.slice FA l'.length FC) l'.length (fieldRow l') ∧ Below wr.heap.size u7 wx ∧ wx.heap.size = u7.heap.size)
        case first =>
          cases qb with
          | true =>
            go_wp2
            go_meet
            exact ⟨false, ⟨by go_simp, by go_simp, by go_simp, by go_simp, by go_simp, by go_simp, by go_simp, by go_simp, by go_simp⟩, fun h => by (cases h), own_setFar8 HF7.out HFG.out _, (Below.refl _ _).setCell hg _, by simp⟩
          | false =>
            go_wp2
            go_meet
            exact ⟨rt0, HBX7.out, HQ.out trivial, HF7.out, Below.refl _ _, rfl⟩
        case rest =>
        obtain ⟨rt, hbox, hrk, hf, hb8, hz8e⟩ := hcut
        generalize hwd : wc = w8 at *
        clear hwd
        have HB8 := Lib.hid (HB7.out.trans (hb8.mono (Nat.le_refl _)))
        have HBX8 := Lib.hid hbox
        have HF8 := Lib.hid hf
        have HRK := Lib.hid hrk
        have HZ8E := Lib.hid hz8e
        have hz78 : u7.heap.size ≤ w8.heap.size := by omega
        clear hz8e
        obtain ⟨x0, x1, x2, x3, x4, x5, x6, xf5, xf6⟩ := hbox
        clear hrk hf hb8 y0 y1 y2 y3 y4 y5 y6 yf5 yf6
        by_cases hn : nn + z ≤ 64
        · have hn' : ¬ (64 : Int) < nn + z := by omega
          go_upto_if 60 with fail
          go_cut [5] (fun kx wx => (∃ k' : Int, kx = .int .i64 k' ∧ 0 ≤ k' ∧ k' ≤ 24) ∧ w8 = wx)
          case first =>
            cases rt with
            | false =>
              go_wp2
              go_meet
              exact ⟨⟨_, rfl, hk0, hk24⟩, rfl⟩
            | true =>
              have hk := HRK.out rfl
              have hk0' : 0 ≤ kp + z := by omega
              go_wp2
              go_meet
              exact ⟨⟨_, rfl, by first | omega | (simp; omega), by first | omega | (simp; omega)⟩, rfl⟩
          case rest =>
          obtain ⟨⟨k', rfl, hk0', hk24'⟩, rfl⟩ := hcut
          have hmk := make_ints z (by omega)
          go_upto_region 14 with fail
          go_cut [] (fun wx => SymBox wx g ({ data := #[118] } ++ D) k1 e1 n1 (.slice FA l'.length FC) rt (.slice (some ⟨w8.heap.size, 0, none⟩) z z) ∧ wx.ownsRow w8.heap.size 3 1 (.slice (some ⟨w8.heap.size, 0, none⟩) z z) z ((List.replicate z (0 : Int)).map (Value.int .i64)) ∧ wx.ownsRow wr.heap.size 39 2 (.slice FA l'.length FC) l'.length (fieldRow l') ∧ Below wr.heap.size w8 wx ∧ wx.heap.size = w8.heap.size + 1)
          case first =>
            have hz8w : g < w8.heap.size := (spot_lt HBX8.out.c0).2
            have hgn : ¬ g = w8.heap.size := by omega
            have hgm : ¬ w8.heap.size = g := by omega
            go_wp2
            go_meet
            exact ⟨⟨by go_simp, by go_simp, by go_simp, by go_simp, by go_simp, by go_simp, by go_simp, by go_simp, by go_simp⟩, own_zeros (by simp) z (by unfold maxLen; omega), (own_setFar8 HF8.out HFG.out _).alloc _, ((Below.refl _ w8).setCell hg _).alloc (by simp; omega) _, by simp⟩
          case rest =>
          obtain ⟨hbox, hiw, hfw, hb9, hz9e⟩ := hcut
          generalize hwd : wc = w9 at *
          clear hwd
          have HBX9 := Lib.hid hbox
          have HI9 := Lib.hid hiw
          have HF9 := Lib.hid hfw
          have HB9 := Lib.hid (HB8.out.trans (hb9.mono (Nat.le_refl _)))
          obtain ⟨ib, hib⟩ : ∃ ib : Nat, ib = w8.heap.size := ⟨_, rfl⟩
          rw [← hib] at HBX9 HI9 hbox hz9e
          have hzi : ib < w9.heap.size := by omega
          have hri : wr.heap.size ≤ ib := by omega
          have hgi : g < ib := by have := (spot_lt HBX8.out.c0).2; omega
          have HZ9E := Lib.hid hz9e
          have hbig : (ib : Int) ≤ ib := Int.le_refl _
          obtain ⟨v0, v1, v2, v3, v4, v5, v6, vf5, vf6⟩ := hbox
          obtain ⟨sd, hsd⟩ : ∃ sd : SymD, sd = ⟨{ data := #[118] } ++ D, k1, e1, n1, l', rt, List.replicate z 0⟩ := ⟨_, rfl⟩
          have hnm2 : ({ data := #[118] } ++ D : ByteArray).size = 2 := by rw [ByteArray.size_append, HD.out]; rfl
          have hsds : sd.size = z := by rw [hsd]; exact HZZ.out
          have hcnt : sd.count = z := by unfold SymD.count; rw [hsds]; omega
          have hsok : sd.Ok := by
            rw [hsd]
            refine ⟨?_, ?_, fun f hf => ?_, ?_⟩
            · show ({ data := #[118] } ++ D : ByteArray).size ≤ 1000000
              omega
            · show l'.length ≤ 1000000
              omega
            · have := HGT.out.names f hf
              omega
            · show (List.replicate z (0 : Int)).length ≤ 1000000
              rw [List.length_replicate]; omega
          rw [hsd] at hsok
          have RC := Lib.hid (fun (u : World) (q : Nat) (hb : Below w9.heap.size w9 u) (hq : q < u.heap.size) c0 c1 c2 c3 c4 c5 c6 => rcells_any (some ⟨q, 0, none⟩) 1 1 [⟨{ data := #[118] } ++ D, k1, e1, n1, l', rt, List.replicate z 0⟩] u (one_sym (w := w9) (Fa := FA) (Fc := FC) (Ia := some ⟨ib, 0, none⟩) (Ic := z) (own_mono8 hfw (Nat.zero_le _)) (by rw [List.length_replicate]; exact own_mono8 (hib ▸ hiw) (Nat.zero_le _)) hsok ⟨hfc, by omega⟩ (by rw [List.length_replicate]; omega) hb hq c0 c1 c2 c3 c4 c5 c6) (by omega) (Nat.le_refl _) (by omega) (fun s' hs' => by (simp at hs'; subst hs'; rw [← hsd]; omega)))
          rw [← hsd] at RC
          simp only [List.length_replicate] at RC
          have HSD := Lib.hid hsd
          have HIB := Lib.hid hib
          clear hib hz9e
          have HCNT := Lib.hid hcnt
          have HSDS := Lib.hid hsds
          have HNM2 := Lib.hid hnm2
          clear hiw hfw hb9 x0 x1 x2 x3 x4 x5 x6 xf5 xf6 hsd hcnt hsds hnm2 hmk
          go_wp2_with fail
          refine (RC.out _ w9.heap.size ((Below.refl _ _).alloc (Nat.le_refl _) _) (by simp) (by go_simp) (by go_simp) (by go_simp) (by go_simp) (by go_simp) (by go_simp) (by go_simp)).mono ?_
          rintro e' w10 ⟨cv, rfl, hcw, hb10⟩
          have hz10 := hb10.size
          simp at hz10
          have hz10' : w9.heap.size < w10.heap.size := by omega
          have HBX10 := Lib.hid (HBX9.out.keep ((hb10.block g (by simp; omega)).trans (Below.heap_alloc _ _ _ (by omega))))
          have hb10' : Below w9.heap.size w9 w10 := ((Below.refl _ w9).alloc (Nat.le_refl _) _).trans (hb10.mono (by simp))
          have HI10 := Lib.hid (row_keep HI9.out hb10')
          have HF10 := Lib.hid (row_keep HF9.out hb10')
          have HB10 := Lib.hid (HB9.out.trans (hb10'.mono (by omega)))
          have hcl : cellsOf [sd] = (List.range z).map sd.cell := by rw [cellsOf, List.flatMap_cons, List.flatMap_nil, List.append_nil, SymD.cells, HCNT.out]
          rw [hcl] at hcw
          simp only [List.length_map, List.length_range] at hcw
          obtain ⟨cb, CC, rfl, hcb, hcm2⟩ := hcw.form (by omega)
          have hcb' : w9.heap.size < cb := by have := (hcw.lt cb rfl).1; simp at this; omega
          have hcbz : cb < w10.heap.size := (hcw.lt cb rfl).2
          obtain ⟨_, CC', hvc, hcc, hcm'⟩ := own_slice hcw
          obtain rfl : CC = CC' := by injection hvc
          unfold maxLen at hcm'
          have HCW := Lib.hid hcw
          obtain ⟨v0, v1, v2, v3, v4, v5, v6, vf5, vf6⟩ := HBX10.out
          have hccI : (z : Int) ≤ CC := by omega
          clear hb10 hb10' hcw hvc RC hcl
          obtain ⟨wo, hwo⟩ : ∃ x : World, x = wr := ⟨_, rfl⟩
          subst hwo
          have SA10 := Lib.hid (HSA.out.below (HB10.out.mono hzw) hbl)
          have hcbi : cb ≠ ib := by omega
          have hgib : g ≠ ib := by omega
          have hfib : (Value.slice FA l'.length FC).ownBlock ≠ some ib := fun e => by
            have := (HF.out.lt _ e).2
            have := HZ8E.out
            have := HIB.out
            omega
          have HFIB := Lib.hid hfib
          have HCBI := Lib.hid hcbi
          have HGIB := Lib.hid hgib
          clear hfib hcbi hgib
          go_wp2_with fail
          go_loopw [10] (fun k wx => Fill8Rel w10 ib z wo.heap.size k wx) (fun k _ => z - (intOf k).toNat)
          case atStart => exact ⟨0, List.replicate z 0, rfl, Nat.zero_le _, by simp, HI10.out, Only.refl _ _⟩
          case round =>
            obtain ⟨q, vs, rfl, hq, hvl, hfo, hon⟩ := hrel
            clear v0 v1 v2 v3 v4 v5 v6 vf5 vf6
            have HON := Lib.hid hon
            have HFO := Lib.hid hfo
            have HVL := Lib.hid hvl
            have hzr := hon.below.size
            have HBXr := Lib.hid (HBX10.out.keep (hon.block g HGIB.out (by omega)))
            obtain ⟨v0, v1, v2, v3, v4, v5, v6, vf5, vf6⟩ := HBXr.out
            have HBr := Lib.hid (HB10.out.trans (hon.below.mono (by omega)))
            clear hfo hvl hon
            by_cases hqz : q < z
            · have hqz' : (q : Int) < z := by omega
              obtain ⟨_, _, Ia, Ic, _, _, _, _, _, _, c6, _, _, _, hI, hI1, hI2⟩ := SA10.out.below (HON.out.below.mono (by omega)) hbl
              have hi1 : (s.init.length : Int) ≤ Ic := by omega
              have hi2 : (Ic : Int) ≤ 9223372036854775807 := by omega
              go_upto_if 83 with fail
              go_cut [11] (fun x wx => (∃ y : Int, x = .int .i64 y) ∧ wr = wx)
              case first =>
                by_cases hql : q < s.init.length
                · have hql' : (q : Int) < s.init.length := by omega
                  obtain ⟨ib2, io2, rfl, _, hic⟩ := hI.2 (by omega)
                  have e1 : wr.cell? ⟨ib2, io2 + q, none⟩ = some (.int .i64 (s.init.getD q 0)) := hic q _ (by simp [List.getD_eq_getElem?_getD, List.getElem?_eq_getElem hql])
                  clear hic hI
                  go_wp2
                  go_meet
                  exact ⟨⟨_, rfl⟩, rfl⟩
                · have hql' : (s.init.length : Int) ≤ q := by omega
                  clear hI
                  go_wp2
                  go_meet
                  exact ⟨⟨_, rfl⟩, rfl⟩
              case rest =>
              obtain ⟨⟨y, rfl⟩, rfl⟩ := hcut
              have e2 : wr.cell? ⟨cb, q * 6 + 1, none⟩ = some (.int .i64 (sd.cell q).kind) := by
                have hm : ((List.range z).map sd.cell)[q]? = some (sd.cell q) := by simp [hqz]
                have h := HCW.out.cells rfl (q * 6 + 1) _ ((flat_get cellCells 6 cellCells_length _ q 1 _ hm (by omega)).trans rfl)
                rw [Addr.add_lit, Nat.zero_add] at h
                exact (World.cell?_of_block (a := ⟨cb, q * 6 + 1, none⟩) (HON.out.block cb HCBI.out hcbz)).trans h
              have WR := Lib.hid (fun W => rwrap_any (sd.cell q).kind y W)
              generalize (sd.cell q).kind = kk at *
              obtain ⟨y0, hy0⟩ : ∃ y0, vs[q]? = some y0 := ⟨_, List.getElem?_eq_getElem (by have := HVL.out; omega)⟩
              obtain ⟨e3, e4⟩ := own_cellJ (j := q) HFO.out (u := .int .i64 y0) (by rw [List.getElem?_map, hy0]; rfl)
              generalize wrapK kk y = yy at *
              clear c6 hI hy0
              go_wp2_with fail
              go_region_with (go_at_call 15; (with_reducible refine (WR.out _).mono ?_); rintro e _ ⟨rfl, rfl⟩)
              all_goals (go_wp2_with fail; go_roundw; (case rel => (refine ⟨q + 1, vs.set q yy, rfl, by omega, by rw [List.length_set]; exact HVL.out, ?_, ?_⟩; (rw [List.map_set]; exact own_setIn HFO.out hqz _); (repeat (first | (with_reducible exact HON.out) | (with_reducible refine Only.set ?_ _ _) | (with_reducible refine Only.drew ?_))))); (case measure => (simp [intOf]; omega)))
            · have hqe : q = z := by omega
              subst hqe
              obtain ⟨i0, hi, hz0, hz1, hz2⟩ := info_parts symInfo8
              have t22 := symTy8
              have HOr := Lib.hid (row_keep HO.out HBr.out)
              have HPSr := Lib.hid (show ∀ p ∈ ps, KeptSym wr w.heap.size p ∧ GoodS p.s from fun p hp => ⟨(HPS.out p hp).1.below HBr.out, (HPS.out p hp).2⟩)
              have HFr := Lib.hid (HON.out.own HF10.out HFIB.out)
              have HBw := Lib.hid (HB.out.trans (HBr.out.mono hzw))
              have hww : w.heap.size ≤ wr.heap.size := HBw.out.size
              have HNEW := Lib.hid (new_sym (Ia := some ⟨ib, 0, none⟩) (Ic := q) (vs := vs) (own_mono8 HFr.out hzw) (by rw [HVL.out]; exact own_mono8 HFO.out (by omega)) HNM2.out HGT.out (by rw [HVL.out]; exact HZZ.out) (e := e1) (rt := rt))
              have HVE := HVL
              clear HF10 HI10 HFO HFr HON HBr HPS HO HB SA10 HCW HBX10 HBXr hqz
              go_wp2_with (at_builtin; refine wpList_append_own _ rfl _ _ 22 rfl w.heap.size 34 i0 _ 7 96 t22 hi hz0 hz1 hz2 rfl (by decide) (.slice OA ps.length OC) ps.length (symRow ps) rfl (HOr.out.alloc _) ⟨_, 0, none⟩ 1 1 [.string ({ data := #[118] } ++ D), .int .i64 k1, .int .i64 e1, .int .i64 n1, .slice FA l'.length FC, .bool rt, .slice (some ⟨ib, 0, none⟩) q q] rfl ?qc1 ?qc2 ?qc3 ?qc4 ?qc5 ?qc6 ?_)
              case qc1 => rfl
              case qc2 => exact news7 (by go_simp) (by go_simp) (by go_simp) (by go_simp) (by go_simp) (by go_simp) (by go_simp)
              case qc3 => intro u hu; simp at hu; rcases hu with rfl | rfl | rfl | rfl | rfl | rfl | rfl <;> rfl
              case qc4 => unfold maxLen; omega
              case qc5 => omega
              case qc6 => simp; omega
              intro v' w1 hown hgrow hnil
              have HB1 := Lib.hid (show Below w.heap.size w w1 from (HBw.out.alloc hww _).grown hgrow (by simp; omega) (fun k hk => (HOr.out.lt k hk).1))
              have HPS1 := Lib.hid (show ∀ p ∈ ps, KeptSym w1 w.heap.size p ∧ GoodS p.s from fun p hp => ⟨((HPSr.out p hp).1.below ((Below.refl _ _).alloc (Nat.le_refl _) _)).grown (HOr.out.alloc _) hgrow, (HPSr.out p hp).2⟩)
              have HNW1 := Lib.hid ((HNEW.out.1.below ((Below.refl _ _).alloc (Nat.le_refl _) _)).grown (HOr.out.alloc _) hgrow)
              have HO1 := Lib.hid hown
              clear hown hgrow hnil v0 v1 v2 v3 v4 v5 v6 vf5 vf6
              go_wp2
              go_roundw
              case rel =>
                refine ⟨j + 1, ps ++ [⟨⟨{ data := #[118] } ++ D, k1, e1, n1, l', rt, vs⟩, FA, FC, some ⟨ib, 0, none⟩, q⟩], nn + q, k', rfl, by omega, by omega, by simp; omega, rfl, by omega, rfl, by omega, ?_, fun p hp => ?_, HB1.out⟩
                · have h := HO1.out
                  rw [symRow_snoc, List.length_append, List.length_singleton]
                  have e7 : symCells ⟨⟨{ data := #[118] } ++ D, k1, e1, n1, l', rt, vs⟩, FA, FC, some ⟨ib, 0, none⟩, q⟩ = [.string ({ data := #[118] } ++ D), .int .i64 k1, .int .i64 e1, .int .i64 n1, .slice FA l'.length FC, .bool rt, .slice (some ⟨ib, 0, none⟩) q q] := by simp [symCells, HVE.out]
                  rw [e7]
                  exact h
                · rcases List.mem_append.1 hp with hp | hp
                  · exact HPS1.out p hp
                  · simp at hp
                    subst hp
                    exact ⟨HNW1.out, HNEW.out.2⟩
              case measure => simp [intOf]; omega
        · have hn' : (64 : Int) < nn + z := by omega
          go_wp2_with fail
          go_ret
          exact ⟨_, ps, rfl, row_keep HO.out HB8.out, fun p hp => ⟨(HPS.out p hp).1.below HB8.out, (HPS.out p hp).2⟩, by omega, HB.out.trans (HB8.out.mono hzw)⟩
    · have hnot : ¬ (j : Int) < l.length ∨ ((j : Int) < l.length ∧ ¬ (j : Int) < 10) := by omega
      have hpl : ps.length ≤ 10 := by omega
      clear hend hb
      rcases hnot with hn1 | ⟨hn1, hn2⟩
      all_goals
        go_wp2_with fail
        go_ret
        exact ⟨_, ps, rfl, HO.out, HPS.out, hpl, HB.out⟩
end Go.Proofs.YtgeeicgdgncmpaaDoor
