/- Chapter 14: a run of one function, whose slice may have places left, over the variables of chapter 12; these may be. -/
import Derived.Test.YtngobbbinacomaaDoorBB14
import Derived.Test.YtngobbbinacomaaDoorRL14
import Derived.KernelRfl
namespace Go.Proofs.YtngobbbinacomaaDoor
open Go.RowKit Go.Proofs.YtngobbbinacomaaDoor.c11 Go.Proofs.YtngobbbinacomaaDoor.c10 Go.Proofs.YtngobbbinacomaaDoor.c13
set_option linter.unusedVariables false
set_option linter.unusedSimpArgs false
attribute [local go_sem ↓] Go.wp_at_zero Go.wp_at_succ

/-- One function's code, with places left. -/
structure CodeC (w : World) (B f g : Nat) (b : List Int) (c : Nat) : Prop where
  cf : w.cell? ⟨f, 0, none⟩ = some (.slice (some ⟨g, 0, none⟩) b.length c)
  cg : ∀ j u, (b.map (Value.int .u8))[j]? = some u → w.cell? ⟨g, j, none⟩ = some u
  lf : f < B
  lg : g < B
  lc : b.length ≤ c ∧ c ≤ 9223372036854775807
theorem CodeC.below {w w' : World} {B f g : Nat} {b : List Int} {c : Nat} (h : CodeC w B f g b c) (hb : Below B w w') : CodeC w' B f g b c :=
  ⟨(dcell hb h.lf 0).trans h.cf, fun j u hu => (dcell hb h.lg j).trans (h.cg j u hu), h.lf, h.lg, h.lc⟩
theorem CodeC.more {w : World} {B B' f g : Nat} {b : List Int} {c : Nat} (h : CodeC w B f g b c) (hB : B ≤ B') : CodeC w B' f g b c := ⟨h.cf, h.cg, Nat.lt_of_lt_of_le h.lf hB, Nat.lt_of_lt_of_le h.lg hB, h.lc⟩

def envC (SA : Option Addr) (SC : Nat) (l : List SymD) (consts : List Int) (Ca : Option Addr) (Cc : Nat) (b : List Int) (c f g : Nat) (i0 i1 i2 i3 now : Int) (La : Option Addr) (Lc : Nat) : Env :=
  ⟨.slice SA l.length SC, consts, Ca, Cc, [b], fun _ => some ⟨g, 0, none⟩, fun _ => c, some ⟨f, 0, none⟩, 1, cellsOf l, La, Lc, i0, i1, i2, i3, now⟩
theorem imgC {w : World} {SA : Option Addr} {SC : Nat} {l : List SymD} {consts : List Int} {Ca : Option Addr} {Cc f g : Nat} {b : List Int} {c : Nat} (hs : Syms w w.heap.size SA l.length l) (hn : l.length ≤ 10000) (hsc : l.length ≤ SC ∧ SC ≤ 9223372036854775807)
    (hk : Row w w.heap.size 1 Ca consts.length (consts.map (Value.int .i64))) (hkc : consts.length ≤ Cc ∧ Cc ≤ 9223372036854775807) (h : CodeC w w.heap.size f g b c) (hb : ∀ x ∈ b, 0 ≤ x ∧ x < 256) (hl : b.length ≤ 4611686018427387904) (i0 i1 i2 i3 now : Int) :
    Img w (envC SA SC l consts Ca Cc b c f g i0 i1 i2 i3 now none 0) SA SC l := by
  refine ⟨rfl, hs, hn, hsc, rfl, hk.rowX (fun b h => h), hkc, ⟨by simp [envC], fun _ => ⟨f, 0, rfl, h.lf, ?_⟩⟩, ⟨Nat.le_refl _, by simp [envC]⟩, ?_⟩
  · intro j u hu
    simp [envC] at hu
    cases j with
    | zero => simp at hu; subst hu; simpa using h.cf
    | succ j => simp at hu
  · intro i c hi
    cases i with
    | succ i => simp [envC] at hi
    | zero =>
      simp [envC] at hi
      subst hi
      refine ⟨⟨by simp, fun _ => ⟨g, 0, rfl, h.lg, fun j u hu => ?_⟩⟩, h.lc.1, h.lc.2, hl, hb⟩
      have := h.cg j u hu
      simpa using this

/-- A run of one function over variables. -/
theorem runC {w : World} {SA : Option Addr} {SC : Nat} {l : List SymD} {consts : List Int} {Ca : Option Addr} {Cc f g : Nat} {b : List Int} {c : Nat} (hs : Syms w w.heap.size SA l.length l) (hn : l.length ≤ 10000) (hsc : l.length ≤ SC ∧ SC ≤ 9223372036854775807)
    (hk : Row w w.heap.size 1 Ca consts.length (consts.map (Value.int .i64))) (hkc : consts.length ≤ Cc ∧ Cc ≤ 9223372036854775807) (h : CodeC w w.heap.size f g b c) (hb : ∀ x ∈ b, 0 ≤ x ∧ x < 256) (hl : b.length ≤ 4611686018427387904) (hlen : ∀ c ∈ cellsOf l, c.len ≤ 1000000)
    (CA : Option Addr) (n CC : Nat) (zs : List Int) (hz : Row w w.heap.size 1 CA n (zs.map (Value.int .i64))) (hzn : n ≤ 1000000) (hzc : n ≤ CC) (i0 i1 i2 i3 o0 o1 o2 o3 now : Int) (bud : Nat) (hbud : bud ≤ 1000000)
    {R : St} {x : Int} (hR : ∀ La Lc, execP (envC SA SC l consts Ca Cc b c f g i0 i1 i2 i3 now La Lc) (bud + 1) b 0 ⟨zs, o0, o1, o2, o3, bud, 0, []⟩ = (R, x)) :
    Calls Tryd.prog 22 #[.agg #[.slice SA l.length SC, .slice Ca consts.length Cc, .slice (some ⟨f, 0, none⟩) 1 1], .slice CA n CC, .agg #[.int .i64 i0, .int .i64 i1, .int .i64 i2, .int .i64 i3], .agg #[.int .i64 o0, .int .i64 o1, .int .i64 o2, .int .i64 o3], .int .i64 now, .int .i64 bud] w fun e w' =>
      Below w.heap.size w w' ∧ (x = 0 → ∃ v, e = .returned (.tuple #[v, .agg #[.int .i64 R.o0, .int .i64 R.o1, .int .i64 R.o2, .int .i64 R.o3], .int .i64 R.used, .int .i64 0]) ∧ w'.ownsRow w.heap.size 3 1 v R.cells.length (R.cells.map (Value.int .i64))) ∧
        (x ≠ 0 → e = .returned (.tuple #[.slice none 0 0, .agg #[.int .i64 0, .int .i64 0, .int .i64 0, .int .i64 0], .int .i64 R.used, .int .i64 x])) := by
  have hmm : (max (bud : Int) 0).toNat = bud := by omega
  have hrun := run_any (envC SA SC l consts Ca Cc b c f g i0 i1 i2 i3 now none 0) SA SC l w (imgC hs hn hsc hk hkc h hb hl i0 i1 i2 i3 now) (fun c hc => hlen c hc) (.inr fun M K S a h0 h1 => blocks_all M K S a h0 h1) CA n CC zs hz hzn hzc o0 o1 o2 o3 bud (by omega)
  rw [hmm] at hrun
  refine hrun.mono ?_
  rintro e w' ⟨hbl, La, Lc, hh⟩
  have hc : callP (atLay (envC SA SC l consts Ca Cc b c f g i0 i1 i2 i3 now none 0) La Lc) (bud + 1) ⟨zs, o0, o1, o2, o3, bud, 0, []⟩ 0 = ({ R with stk := [] }, x) := by
    unfold callP
    rw [if_pos (by simp [atLay, envC])]
    have := hR La Lc
    rw [show ((atLay (envC SA SC l consts Ca Cc b c f g i0 i1 i2 i3 now none 0) La Lc).funcs.getD (0 : Int).toNat []) = b from rfl, show atLay (envC SA SC l consts Ca Cc b c f g i0 i1 i2 i3 now none 0) La Lc = envC SA SC l consts Ca Cc b c f g i0 i1 i2 i3 now La Lc from rfl, this]
  simp only [hc] at hh
  refine ⟨hbl, fun h0 => ?_, fun h0 => ?_⟩
  · rcases hh with ⟨_, v, he, hv⟩ | ⟨h1, _⟩
    · exact ⟨v, he, hv⟩
    · exact absurd h0 h1
  · rcases hh with ⟨h1, _⟩ | ⟨_, he⟩
    · exact absurd h1 h0
    · exact he

/-- The variables of chapter 12's programs may be. -/
theorem symsT_good : GoodSyms (symsP true) := by
  have hm : ∀ s ∈ symsP true, s = sN ∨ s = sB ∨ s = sW ∨ s = sI ∨ s = sA5 ∨ s = sT ∨ s = sC := by
    intro s hs; simpa [symsP] using hs
  refine ⟨by decide, symsP_ok true, ?_, ?_, ?_, ?_, ?_, ?_, ?_, by decide⟩
  · intro s hs
    rcases hm s hs with rfl | rfl | rfl | rfl | rfl | rfl | rfl <;> simp [Letter, sN, sB, sW, sI, sA5, sT, sC]
  · intro s hs
    rcases hm s hs with rfl | rfl | rfl | rfl | rfl | rfl | rfl <;> simp [TypeOk, sN, sB, sW, sI, sA5, sT, sC]
  · intro s hs
    rcases hm s hs with rfl | rfl | rfl | rfl | rfl | rfl | rfl <;> rfl
  · intro s hs
    rcases hm s hs with rfl | rfl | rfl | rfl | rfl | rfl | rfl <;> decide
  · intro s hs k x hx
    have hk : ∀ z ∈ symsP true, (List.range z.init.length).all (fun k => decide (wrapK (kindOf z.kind z.elem z.fields k) (z.init.getD k 0) = z.init.getD k 0)) = true := by
      intro z hz
      rcases hm z hz with rfl | rfl | rfl | rfl | rfl | rfl | rfl <;> kernel_rfl
    have hkl := (List.getElem?_eq_some_iff.1 hx).1
    have h := of_decide_eq_true (List.all_eq_true.1 (hk s hs) k (List.mem_range.2 hkl))
    rw [show s.init.getD k 0 = x by rw [List.getD, hx]; rfl] at h
    exact h
  · have hd : (List.range 7).all (fun i => (List.range i).all fun j => decide (((symsP true).map SymD.name)[i]? ≠ ((symsP true).map SymD.name)[j]?)) = true := by decide
    intro i j si sj hi hj hji e
    have hi7 : i < 7 := (List.getElem?_eq_some_iff.1 hi).1
    have h1 := List.all_eq_true.1 (List.all_eq_true.1 hd i (List.mem_range.2 hi7)) j (List.mem_range.2 hji)
    have h2 := of_decide_eq_true h1
    rw [List.getElem?_map, List.getElem?_map, hi, hj] at h2
    exact h2 (by simp [e])
  · intro i hi
    have hd : (List.range 8).all (fun i => decide (sizesN ((symsP true).take i) ≤ 64)) = true := by decide
    exact of_decide_eq_true (List.all_eq_true.1 hd i (List.mem_range.2 (Nat.lt_succ_of_le hi)))

/-- Such an image of one function over these variables. -/
theorem imgAtC {w : World} {SA : Option Addr} {SC : Nat} {l : List SymD} {consts : List Int} {Ca : Option Addr} {Cc f g : Nat} {b : List Int} {c : Nat} (hs : Syms w w.heap.size SA l.length l) (hsc : l.length ≤ SC ∧ SC ≤ 9223372036854775807)
    (hk : Row w w.heap.size 1 Ca consts.length (consts.map (Value.int .i64))) (hkc : consts.length ≤ Cc ∧ Cc ≤ 9223372036854775807) (h : CodeC w w.heap.size f g b c) (hb : ∀ x ∈ b, 0 ≤ x ∧ x < 256) :
    ImgAt w SA SC l Ca Cc consts (some ⟨f, 0, none⟩) 1 [b] (fun _ => some ⟨g, 0, none⟩) (fun _ => c) := by
  refine ⟨hs, hsc, hk, hkc, ⟨rfl, fun _ => ⟨f, 0, rfl, h.lf, ?_⟩⟩, ⟨Nat.le_refl _, by decide⟩, ?_⟩
  · intro j u hu
    cases j with
    | zero => simp at hu; subst hu; simpa using h.cf
    | succ j => simp [List.range_succ] at hu
  · intro i c hi
    cases i with
    | succ i => simp at hi
    | zero =>
      simp at hi
      subst hi
      refine ⟨⟨by simp, fun _ => ⟨g, 0, rfl, h.lg, fun j u hu => ?_⟩⟩, h.lc.1, h.lc.2, hb⟩
      have := h.cg j u hu
      simpa using this
end Go.Proofs.YtngobbbinacomaaDoor
