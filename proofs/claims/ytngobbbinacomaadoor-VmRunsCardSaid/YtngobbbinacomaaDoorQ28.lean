/- Chapter 14: images of several functions, whose codes lie in rows of their own (for programs of numbers). -/
import Derived.Test.YtngobbbinacomaaDoorQ12
import Derived.Test.YtngobbbinacomaaDoorQ18
import Derived.KernelRfl
namespace Go.Proofs.YtngobbbinacomaaDoor
open Go.RowKit Go.Proofs.YtngobbbinacomaaDoor.c11 Go.Proofs.YtngobbbinacomaaDoor.c10
set_option linter.unusedVariables false
set_option linter.unusedSimpArgs false
/-- A function's code in a world. -/
structure CodeLies (w : World) (g : Nat) (b : List Int) (c : Nat) : Prop where
  cg : ∀ j u, (b.map (Value.int .u8))[j]? = some u → w.cell? ⟨g, j, none⟩ = some u
  lt : g < w.heap.size
  cap : b.length ≤ c ∧ c ≤ 9223372036854775807
theorem CodeLies.below {w w' : World} {g : Nat} {b : List Int} {c : Nat} (h : CodeLies w g b c) (hb : Below w.heap.size w w') : CodeLies w' g b c :=
  ⟨fun j u hu => (dcell hb h.lt j).trans (h.cg j u hu), Nat.lt_of_lt_of_le h.lt hb.size, h.cap⟩
theorem CodeLies.of_own {w : World} {base n : Nat} {v : Value} {b : List Int} (h : w.ownsRow base 5 1 v n (b.map (Value.int .u8))) (hn : 0 < n) : ∃ g c, v = .slice (some ⟨g, 0, none⟩) n c ∧ CodeLies w g b c := by
  obtain ⟨g, cap, rfl, _⟩ := h.form hn
  obtain ⟨_, c', h0, h1, h2⟩ := own_slice h
  obtain rfl : cap = c' := by injection h0
  have hl : b.length = n := by have := h.1; simpa using this
  unfold maxLen at h2
  refine ⟨g, cap, rfl, fun j u hu => ?_, (h.lt g rfl).2, by omega, h2⟩
  have hj : j < n * 1 := by have h1 := (List.getElem?_eq_some_iff.1 hu).1; simp at h1; omega
  rw [h.cellAt j hj]
  exact hu
theorem own_dr {w : World} {base : Nat} {e : TypeId} {size n : Nat} {v : Value} {xs : List Value} (h : w.ownsRow base e size v n xs) : w.drew.ownsRow base e size v n xs := h
theorem cell_set_same {w : World} {b j : Nat} {u v : Value} (h : w.cell? ⟨b, j, none⟩ = some u) : (w.setCell ⟨b, j, none⟩ v).cell? ⟨b, j, none⟩ = some v := by
  have hb : (w.cell? ⟨b, j, none⟩).isSome = true := by rw [h]; rfl
  go_simp
theorem cell_set_ne {w : World} {b j b' j' : Nat} {v : Value} (h : b ≠ b' ∨ j ≠ j') : (w.setCell ⟨b, j, none⟩ v).cell? ⟨b', j', none⟩ = w.cell? ⟨b', j', none⟩ :=
  World.cell?_setCell_other w ⟨b, j, none⟩ ⟨b', j', none⟩ v (fun e => by injection e with e1 e2; rcases h with h | h; exact h (by first | exact e1 | exact e1.symm); exact h (by first | exact e2 | exact e2.symm))
theorem froz_set {w : World} {p q : Addr} {v : Value} : (w.setCell p v).frozen? q = w.frozen? q := by go_simp
/-- The functions' row, and each one's code. -/
structure FuncsAt (w : World) (f : Nat) (funcs : List (List Int)) (vs : List Value) : Prop where
  len : vs.length = funcs.length
  row : ∀ (i : Nat) (v : Value), vs[i]? = some v → w.cell? ⟨f, i, none⟩ = some v
  each : ∀ (i : Nat) (v : Value) (b : List Int), vs[i]? = some v → funcs[i]? = some b → ∃ (g c : Nat), v = Value.slice (some ⟨g, 0, none⟩) b.length c ∧ CodeLies w g b c
  lt : f < w.heap.size
theorem FuncsAt.below {w w' : World} {f : Nat} {funcs : List (List Int)} {vs : List Value} (h : FuncsAt w f funcs vs) (hb : Below w.heap.size w w') : FuncsAt w' f funcs vs :=
  ⟨h.len, fun i v hv => (dcell hb h.lt i).trans (h.row i v hv), fun i v b hv hb' => by
    obtain ⟨g, c, h1, h2⟩ := h.each i v b hv hb'
    exact ⟨g, c, h1, h2.below hb⟩, Nat.lt_of_lt_of_le h.lt hb.size⟩
def fvOf (vs : List Value) (i : Nat) : Option Addr := match vs[i]? with | some (.slice A _ _) => A | _ => none
def flOf (vs : List Value) (i : Nat) : Nat := match vs[i]? with | some (.slice _ _ c) => c | _ => 0
theorem FuncsAt.slot {w : World} {f : Nat} {funcs : List (List Int)} {vs : List Value} (h : FuncsAt w f funcs vs) (i : Nat) (b : List Int) (hb : funcs[i]? = some b) :
    ∃ g c, vs[i]? = some (.slice (some ⟨g, 0, none⟩) b.length c) ∧ fvOf vs i = some ⟨g, 0, none⟩ ∧ flOf vs i = c ∧ CodeLies w g b c := by
  have hi := (List.getElem?_eq_some_iff.1 hb).1
  obtain ⟨v, hv⟩ : ∃ v, vs[i]? = some v := ⟨_, List.getElem?_eq_getElem (by rw [h.len]; exact hi)⟩
  obtain ⟨g, c, rfl, hc⟩ := h.each i v b hv hb
  exact ⟨g, c, hv, by simp [fvOf, hv], by simp [flOf, hv], hc⟩
theorem FuncsAt.cells {w : World} {f : Nat} {funcs : List (List Int)} {vs : List Value} (h : FuncsAt w f funcs vs) : ∀ (j : Nat) (u : Value), ((List.range funcs.length).map fun i => Value.slice (fvOf vs i) (funcs.getD i []).length (flOf vs i))[j]? = some u → w.cell? ⟨f, j, none⟩ = some u := by
  intro j u hu
  have hj : j < funcs.length := by have := (List.getElem?_eq_some_iff.1 hu).1; simpa using this
  obtain ⟨b, hb⟩ : ∃ b, funcs[j]? = some b := ⟨_, List.getElem?_eq_getElem hj⟩
  obtain ⟨g, c, h1, h2, h3, h4⟩ := h.slot j b hb
  rw [List.getElem?_map, List.getElem?_range hj] at hu
  simp only [Option.map_some, Option.some.injEq, List.getD_eq_getElem?_getD, hb, Option.getD_some, h2, h3] at hu
  subst hu
  exact h.row j _ h1
def envF (SA : Option Addr) (SC : Nat) (l : List SymD) (consts : List Int) (Ca : Option Addr) (Cc : Nat) (funcs : List (List Int)) (vs : List Value) (f Fc : Nat) (i0 i1 i2 i3 now : Int) (La : Option Addr) (Lc : Nat) : Env :=
  ⟨.slice SA l.length SC, consts, Ca, Cc, funcs, fvOf vs, flOf vs, some ⟨f, 0, none⟩, Fc, cellsOf l, La, Lc, i0, i1, i2, i3, now⟩
/-- As a run sees it. -/
theorem imgF {w : World} {SA : Option Addr} {SC : Nat} {l : List SymD} {consts : List Int} {Ca : Option Addr} {Cc f Fc : Nat} {funcs : List (List Int)} {vs : List Value} (hs : Syms w w.heap.size SA l.length l) (hn : l.length ≤ 10000) (hsc : l.length ≤ SC ∧ SC ≤ 9223372036854775807)
    (hk : Row w w.heap.size 1 Ca consts.length (consts.map (Value.int .i64))) (hkc : consts.length ≤ Cc ∧ Cc ≤ 9223372036854775807) (h : FuncsAt w f funcs vs) (hfc : funcs.length ≤ Fc ∧ Fc ≤ 9223372036854775807) (hb : ∀ b ∈ funcs, ∀ x ∈ b, 0 ≤ x ∧ x < 256) (hl : ∀ b ∈ funcs, b.length ≤ 120) (i0 i1 i2 i3 now : Int) :
    Img w (envF SA SC l consts Ca Cc funcs vs f Fc i0 i1 i2 i3 now none 0) SA SC l := by
  refine ⟨rfl, hs, hn, hsc, rfl, hk.rowX (fun b h => h), hkc, ⟨by simp [envF], fun _ => ⟨f, 0, rfl, h.lt, fun j u hu => by rw [Nat.zero_add]; exact h.cells j u hu⟩⟩, hfc, fun i b hi => ?_⟩
  have hi : funcs[i]? = some b := hi
  obtain ⟨g, c, h1, h2, h3, h4⟩ := h.slot i b hi
  have hm := List.mem_of_getElem? hi
  have e2 : (envF SA SC l consts Ca Cc funcs vs f Fc i0 i1 i2 i3 now none 0).Fv i = some ⟨g, 0, none⟩ := h2
  have e3 : (envF SA SC l consts Ca Cc funcs vs f Fc i0 i1 i2 i3 now none 0).Fl i = c := h3
  rw [e2, e3]
  have hll := hl b hm
  exact ⟨⟨by simp, fun _ => ⟨g, 0, rfl, h4.lt, fun j u hu => by rw [Nat.zero_add]; exact h4.cg j u hu⟩⟩, h4.cap.1, h4.cap.2, by omega, hb b hm⟩
end Go.Proofs.YtngobbbinacomaaDoor
