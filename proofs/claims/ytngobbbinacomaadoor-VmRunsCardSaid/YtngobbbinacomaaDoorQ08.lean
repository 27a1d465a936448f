/- Chapter 14: the machine as it lies in memory; pop. -/
import Derived.Test.YtngobbbinacomaaDoorQ02
import Derived.Test.YtngobbbinacomaaDoorQ03
import Derived.Test.YtngobbbinacomaaDoorQ01
import Derived.BigGuardPart
import Derived.BigRegion
import Derived.RegionTactic
import Derived.Deep.RegionHeld3
import Derived.Deep.DrawnRows
import Derived.Deep.QuietTactic
import Derived.BigQuiet
namespace Go.Proofs.YtngobbbinacomaaDoor
open Go.RowKit
set_option linter.unusedVariables false
set_option linter.unusedSimpArgs false
attribute [local go_sem ↓] Go.wp_at_zero Go.wp_at_succ
/-- What a run does not change. -/
structure Env where
  syms : Value
  consts : List Int
  Ca : Option Addr
  Cc : Nat
  funcs : List (List Int)
  Fv : Nat → Option Addr
  Fl : Nat → Nat
  Fa : Option Addr
  Fc : Nat
  lay : List CellD
  La : Option Addr
  Lc : Nat
  i0 : Int
  i1 : Int
  i2 : Int
  i3 : Int
  now : Int
/-- What a run changes: cells, outputs, what is left of the budget, how many were used, the stack (kind, value; its top is last). -/
structure St where
  cells : List Int
  o0 : Int
  o1 : Int
  o2 : Int
  o3 : Int
  left : Nat
  used : Nat
  stk : List (Int × Int)
/-- The machine's eighteen cells. -/
def mcells (E : Env) (C sv kv : Value) (S : St) : Array Value :=
  #[C, .int .i64 S.o0, .int .i64 S.o1, .int .i64 S.o2, .int .i64 S.o3, E.syms, .slice E.Ca E.consts.length E.Cc, .slice E.Fa E.funcs.length E.Fc, .slice E.La E.lay.length E.Lc,
    .int .i64 E.i0, .int .i64 E.i1, .int .i64 E.i2, .int .i64 E.i3, .int .i64 E.now, .int .i64 S.left, .int .i64 S.used, sv, kv]
/-- A slice that reads as cells, in a block that X lets. -/
def RowX (w : World) (X : Nat → Prop) (size : Nat) (A : Option Addr) (n : Nat) (xs : List Value) : Prop :=
  xs.length = n * size ∧ (0 < n → ∃ b off, A = some ⟨b, off, none⟩ ∧ X b ∧ ∀ j u, xs[j]? = some u → w.cell? ⟨b, off + j, none⟩ = some u)
theorem RowX.keep {w w' : World} {X : Nat → Prop} {size n : Nat} {A : Option Addr} {xs : List Value} (h : RowX w X size A n xs) (hk : ∀ b, X b → w'.heap[b]? = w.heap[b]?) : RowX w' X size A n xs :=
  ⟨h.1, fun hn => by
    obtain ⟨b, off, e, hb, hc⟩ := h.2 hn
    exact ⟨b, off, e, hb, fun j u hu => (World.cell?_of_block (a := ⟨b, off + j, none⟩) (hk b hb)).trans (hc j u hu)⟩⟩
theorem RowX.row {w : World} {X : Nat → Prop} {size n B : Nat} {A : Option Addr} {xs : List Value} (h : RowX w X size A n xs) (hB : ∀ b, X b → b < B) : Row w B size A n xs :=
  ⟨h.1, fun hn => by
    obtain ⟨b, off, e, hb, hc⟩ := h.2 hn
    exact ⟨b, off, e, hB b hb, hc⟩⟩
theorem Row.rowX {w : World} {X : Nat → Prop} {size n B : Nat} {A : Option Addr} {xs : List Value} (h : Row w B size A n xs) (hB : ∀ b, b < B → X b) : RowX w X size A n xs :=
  ⟨h.1, fun hn => by
    obtain ⟨b, off, e, hb, hc⟩ := h.2 hn
    exact ⟨b, off, e, hB b hb, hc⟩⟩
/-- The rows that a run only reads. -/
structure Stat (w : World) (X : Nat → Prop) (E : Env) : Prop where
  consts : RowX w X 1 E.Ca E.consts.length (E.consts.map (Value.int .i64))
  cc : E.consts.length ≤ E.Cc ∧ E.Cc ≤ 9223372036854775807
  funcs : RowX w X 1 E.Fa E.funcs.length ((List.range E.funcs.length).map fun i => Value.slice (E.Fv i) (E.funcs.getD i []).length (E.Fl i))
  fc : E.funcs.length ≤ E.Fc ∧ E.Fc ≤ 9223372036854775807
  code : ∀ i b, E.funcs[i]? = some b → RowX w X 1 (E.Fv i) b.length (b.map (Value.int .u8)) ∧ b.length ≤ E.Fl i ∧ E.Fl i ≤ 9223372036854775807 ∧ b.length ≤ 4611686018427387904 ∧ ∀ x ∈ b, 0 ≤ x ∧ x < 256
  lay : RowX w X 6 E.La E.lay.length (cellRow E.lay)
  lc : E.lay.length ≤ E.Lc ∧ E.Lc ≤ 9223372036854775807
theorem Stat.keep {w w' : World} {X : Nat → Prop} {E : Env} (h : Stat w X E) (hk : ∀ b, X b → w'.heap[b]? = w.heap[b]?) : Stat w' X E :=
  ⟨h.consts.keep hk, h.cc, h.funcs.keep hk, h.fc, fun i b hb => ⟨(h.code i b hb).1.keep hk, (h.code i b hb).2⟩, h.lay.keep hk, h.lc⟩
/-- Which machine: where it lies, its cells' row, what it reads, from which block on things were made behind it. -/
structure Who where
  g : Nat
  C : Value
  K0 : Nat
  B0 : Nat
  E : Env
def Who.X (M : Who) (b : Nat) : Prop := b < M.K0 ∧ b ≠ M.g ∧ M.C.ownBlock ≠ some b
/-- w' is w, but for the machine's block, its cells' block, and blocks from K on. -/
structure Fr (M : Who) (K : Nat) (w w' : World) : Prop where
  os : w'.os = w.os
  tape : w'.tape = w.tape
  output : w'.output = w.output
  size : w.heap.size ≤ w'.heap.size
  block : ∀ b, b < K → b ≠ M.g → M.C.ownBlock ≠ some b → w'.heap[b]? = w.heap[b]?
theorem Fr.refl (M : Who) (K : Nat) (w : World) : Fr M K w w := ⟨rfl, rfl, rfl, Nat.le_refl _, fun _ _ _ _ => rfl⟩
theorem Fr.trans {M : Who} {K : Nat} {a b c : World} (h : Fr M K a b) (k : Fr M K b c) : Fr M K a c :=
  ⟨k.os.trans h.os, k.tape.trans h.tape, k.output.trans h.output, Nat.le_trans h.size k.size, fun x hx h1 h2 => (k.block x hx h1 h2).trans (h.block x hx h1 h2)⟩
theorem Fr.mono {M : Who} {K K' : Nat} {a b : World} (h : Fr M K' a b) (hK : K ≤ K') : Fr M K a b := ⟨h.os, h.tape, h.output, h.size, fun x hx h1 h2 => h.block x (by omega) h1 h2⟩
theorem Fr.drew {M : Who} {K : Nat} {a w : World} (h : Fr M K a w) : Fr M K a w.drew := ⟨h.os, h.tape, h.output, h.size, h.block⟩
theorem Fr.drewN {M : Who} {K : Nat} {a w : World} (h : Fr M K a w) (n : Nat) : Fr M K a (w.drewN n) := ⟨h.os, h.tape, h.output, h.size, h.block⟩
theorem Fr.alloc {M : Who} {K : Nat} {a w : World} (h : Fr M K a w) (hK : K ≤ w.heap.size) (o : Obj) : Fr M K a (w.alloc o) :=
  ⟨h.os, h.tape, h.output, Nat.le_trans h.size (by simp), fun x hx h1 h2 => (Below.heap_alloc w o x (by omega)).trans (h.block x hx h1 h2)⟩
theorem Fr.below {M : Who} {K : Nat} {a w w' : World} (h : Fr M K a w) {B : Nat} (hb : Below B w w') (hB : K ≤ B) : Fr M K a w' :=
  ⟨hb.os.trans h.os, hb.tape.trans h.tape, hb.output.trans h.output, Nat.le_trans h.size hb.size, fun x hx h1 h2 => (hb.block x (by omega)).trans (h.block x hx h1 h2)⟩
theorem Fr.setG {M : Who} {K : Nat} {a w : World} (h : Fr M K a w) (j : Nat) (u : Value) : Fr M K a (w.setCell ⟨M.g, j, none⟩ u) :=
  ⟨h.os, h.tape, h.output, by simpa [World.setCell] using h.size, fun x hx h1 h2 => (Below.heap_setCell w ⟨M.g, j, none⟩ u x h1).trans (h.block x hx h1 h2)⟩
theorem Fr.grown {M : Who} {K : Nat} {a w w' : World} (h : Fr M K a w) {row : Option Nat} (hg : w.grownBy w' row) (hK : K ≤ w.heap.size) (hr : ∀ k, row = some k → K ≤ k) : Fr M K a w' :=
  ⟨hg.os.trans h.os, hg.tape.trans h.tape, hg.output.trans h.output, Nat.le_trans h.size hg.size, fun x hx h1 h2 => (hg.block x (by omega) (fun e => by have := hr x e.symm; omega)).trans (h.block x hx h1 h2)⟩
/-- The machine, in a world: sv, kv: the stack's two rows; they lie from block K on. -/
structure Mach (M : Who) (w : World) (K : Nat) (sv kv : Value) (S : St) : Prop where
  blk : w.heap[M.g]? = some (.cells (mcells M.E M.C sv kv S) 77 (0, 0))
  gK : M.g < K
  k0 : M.K0 ≤ K
  kw : K ≤ w.heap.size
  cells : w.ownsRow M.B0 3 1 M.C S.cells.length (S.cells.map (Value.int .i64))
  cK : ∀ b, M.C.ownBlock = some b → b < K ∧ b ≠ M.g
  stk : w.ownsRow K 3 1 sv S.stk.length (S.stk.map fun p => Value.int .i64 p.2)
  knd : w.ownsRow K 3 1 kv S.stk.length (S.stk.map fun p => Value.int .i64 p.1)
  apart : sv.ownBlock = none ∨ sv.ownBlock ≠ kv.ownBlock
  stat : Stat w M.X M.E
  bud : S.used + S.left ≤ 1000000
  hi : S.stk.length ≤ 1000000000
section
variable {M : Who} {w w' : World} {K : Nat} {sv kv : Value} {S : St}
theorem Mach.cell (h : Mach M w K sv kv S) (j : Nat) : w.cell? ⟨M.g, j, none⟩ = (mcells M.E M.C sv kv S)[j]? := cell_of_row w M.g j _ _ (0, 0) h.blk
theorem Mach.frozen (h : Mach M w K sv kv S) (j : Nat) : w.frozen? ⟨M.g, j, none⟩ = false := by
  have := h.blk
  simp [World.frozen?, this]
theorem Mach.fr (h : Mach M w K sv kv S) {S' : St} {sv' kv' : Value} (f : Fr M K w w') (blk : w'.heap[M.g]? = some (.cells (mcells M.E M.C sv' kv' S') 77 (0, 0)))
    (cells : w'.ownsRow M.B0 3 1 M.C S'.cells.length (S'.cells.map (Value.int .i64))) (stk : w'.ownsRow K 3 1 sv' S'.stk.length (S'.stk.map fun p => Value.int .i64 p.2))
    (knd : w'.ownsRow K 3 1 kv' S'.stk.length (S'.stk.map fun p => Value.int .i64 p.1)) (apart : sv'.ownBlock = none ∨ sv'.ownBlock ≠ kv'.ownBlock) (bud : S'.used + S'.left ≤ 1000000) (hi : S'.stk.length ≤ 1000000000) : Mach M w' K sv' kv' S' :=
  ⟨blk, h.gK, h.k0, Nat.le_trans h.kw f.size, cells, h.cK, stk, knd, apart, h.stat.keep fun b hb => f.block b (Nat.lt_of_lt_of_le hb.1 h.k0) hb.2.1 hb.2.2, bud, hi⟩
/-- Behind what only makes memory. -/
theorem Mach.below (h : Mach M w K sv kv S) (hb : Below w.heap.size w w') : Mach M w' K sv kv S :=
  h.fr ((Fr.refl M K w).below hb h.kw) ((hb.block M.g (Nat.lt_of_lt_of_le h.gK h.kw)).trans h.blk) (row_keep h.cells hb) (row_keep h.stk hb) (row_keep h.knd hb) h.apart h.bud h.hi
theorem Mach.stk_g (h : Mach M w K sv kv S) : sv.ownBlock ≠ some M.g := fun e => by have := (h.stk.lt _ e).1; have := h.gK; omega
theorem Mach.knd_g (h : Mach M w K sv kv S) : kv.ownBlock ≠ some M.g := fun e => by have := (h.knd.lt _ e).1; have := h.gK; omega
theorem Mach.c_g (h : Mach M w K sv kv S) : M.C.ownBlock ≠ some M.g := fun e => (h.cK _ e).2 rfl
theorem Mach.c_stk (h : Mach M w K sv kv S) : M.C.ownBlock = none ∨ M.C.ownBlock ≠ sv.ownBlock := by
  cases hc : M.C.ownBlock with
  | none => exact .inl rfl
  | some b => exact .inr fun e => by have := (h.stk.lt _ e.symm).1; have := (h.cK _ hc).1; omega
theorem Mach.c_knd (h : Mach M w K sv kv S) : M.C.ownBlock = none ∨ M.C.ownBlock ≠ kv.ownBlock := by
  cases hc : M.C.ownBlock with
  | none => exact .inl rfl
  | some b => exact .inr fun e => by have := (h.knd.lt _ e.symm).1; have := (h.cK _ hc).1; omega
end
/-- A row of the call's own behind a store elsewhere. -/
theorem own_setFar {w : World} {base : Nat} {e : TypeId} {size n : Nat} {v : Value} {xs : List Value} (h : w.ownsRow base e size v n xs) {a : Addr} (ha : v.ownBlock ≠ some a.block) (u : Value) : (w.setCell a u).ownsRow base e size v n xs :=
  h.kept (row := some a.block) ⟨rfl, rfl, rfl, by simp [World.setCell], fun k _ hk => Below.heap_setCell w a u k (fun e => hk (by rw [e]))⟩ (.inr ha)
theorem own_drewN {w : World} {base : Nat} {e : TypeId} {size n : Nat} {v : Value} {xs : List Value} (h : w.ownsRow base e size v n xs) (k : Nat) : (w.drewN k).ownsRow base e size v n xs := h
/-- The last ones taken away. -/
theorem own_pop {w : World} {base : Nat} {e : TypeId} {A : Option Addr} {n cap k : Nat} {xs : List Value} (h : w.ownsRow base e 1 (.slice A n cap) n xs) (hk : k ≤ n) (hn : 0 < n) : w.ownsRow base e 1 (.slice A k cap) k (xs.take k) := by
  rcases h.2 with ⟨_, h0⟩ | ⟨g, c, cur, hv, hb, hg, hnc, hcm, hcs, ht⟩
  · omega
  · injection hv with h1 h2 h3
    subst h1 h3
    refine ⟨by rw [List.length_take, h.1]; omega, .inr ⟨g, cap, cur, rfl, hb, hg, by omega, hcm, hcs, ?_⟩⟩
    rw [← ht, List.take_take]
    congr 1
    omega
theorem blk_set {w : World} {g : Nat} {t : TypeId} {cs : Array Value} (h : w.heap[g]? = some (.cells cs t (0, 0))) (j : Nat) (u : Value) : (w.setCell ⟨g, j, none⟩ u).heap[g]? = some (.cells (cs.setIfInBounds j u) t (0, 0)) :=
  heap_setCell_same w g j cs t u h
/-- A block that is no one of those that an instruction may write. -/
structure Far (M : Who) (b : Nat) (sv kv : Value) : Prop where
  g : b ≠ M.g
  c : M.C.ownBlock ≠ some b
  s : sv.ownBlock ≠ some b
  k : kv.ownBlock ≠ some b
/-- A call that leaves the machine, in the state S'. -/
def Left (M : Who) (K : Nat) (sv kv : Value) (w w' : World) (S' : St) : Prop :=
  ∃ sv' kv', Mach M w' K sv' kv' S' ∧ Fr M K w w' ∧ ∀ b, b < w.heap.size → Far M b sv kv → w'.heap[b]? = w.heap[b]? ∧ Far M b sv' kv'
theorem Left.trans {M : Who} {K : Nat} {sv kv sv1 kv1 : Value} {w w1 w2 : World} {S1 S2 : St} (f : Fr M K w w1) (p : ∀ b, b < w.heap.size → Far M b sv kv → w1.heap[b]? = w.heap[b]? ∧ Far M b sv1 kv1)
    (h : Left M K sv1 kv1 w1 w2 S2) : Left M K sv kv w w2 S2 := by
  obtain ⟨sv2, kv2, h1, h2, h3⟩ := h
  refine ⟨sv2, kv2, h1, f.trans h2, fun b hb hf => ?_⟩
  obtain ⟨e1, f1⟩ := p b hb hf
  obtain ⟨e2, f2⟩ := h3 b (Nat.lt_of_lt_of_le hb f.size) f1
  exact ⟨e2.trans e1, f2⟩
theorem Mach.left {M : Who} {w : World} {K : Nat} {sv kv : Value} {S : St} (h : Mach M w K sv kv S) : Left M K sv kv w w S := ⟨sv, kv, h, Fr.refl _ _ _, fun _ _ f => ⟨rfl, f⟩⟩
theorem Left.pre {M : Who} {K : Nat} {sv kv : Value} {a b c : World} {S : St} (hb : Below a.heap.size a b) (hK : K ≤ a.heap.size) (h : Left M K sv kv b c S) : Left M K sv kv a c S :=
  Left.trans (S1 := S) ((Fr.refl M K a).below hb hK) (fun x hx f => ⟨hb.block x hx, f⟩) h
theorem Left.post {M : Who} {K : Nat} {sv kv : Value} {a b c : World} {S : St} (h : Left M K sv kv a b S) (hb : Below b.heap.size b c) : Left M K sv kv a c S := by
  obtain ⟨sv', kv', h1, h2, h3⟩ := h
  exact ⟨sv', kv', h1.below hb, h2.below hb h1.kw, fun x hx f => ⟨(hb.block x (Nat.lt_of_lt_of_le hx h2.size)).trans (h3 x hx f).1, (h3 x hx f).2⟩⟩
/-- A block that was just made. -/
theorem Mach.far_new {M : Who} {w : World} {K : Nat} {sv kv : Value} {S : St} (h : Mach M w K sv kv S) {b : Nat} (hb : w.heap.size ≤ b) : Far M b sv kv :=
  ⟨fun e => by have := h.gK; have := h.kw; omega, fun e => by have := (h.cK _ e).1; have := h.kw; omega, fun e => by have := (h.stk.lt _ e).2; omega, fun e => by have := (h.knd.lt _ e).2; omega⟩
theorem machTy : Tryd.prog.underlying 22 = some (.slice 3) := by kernel_rfl
/-- An empty stack gives nought. -/
theorem pop_nil (M : Who) (w : World) (K : Nat) (sv kv : Value) (S : St) (h : Mach M w K sv kv S) (hs : S.stk = []) :
    Calls Tryd.prog 75 #[.pointer (some ⟨M.g, 0, none⟩)] w fun e w' => e = .returned (.tuple #[.int .i64 0, .int .i64 0]) ∧ w = w' := by
  have hl : S.stk.length = 0 := by rw [hs]; rfl
  obtain ⟨As, cs, hsv, _, _⟩ := own_slice h.stk
  have m16 : w.cell? ⟨M.g, 16, none⟩ = some sv := h.cell 16
  rw [hl] at hsv
  subst hsv
  clear h hs hl
  go_enter Tryd.func75, Tryd.ntmps75
  go_wp2
  go_ret2
  exact ⟨rfl, rfl⟩
set_option maxHeartbeats 2000000 in
theorem pop_some (M : Who) (w : World) (K : Nat) (sv kv : Value) (S : St) (h : Mach M w K sv kv S) (l : List (Int × Int)) (k x : Int) (hs : S.stk = l ++ [(k, x)]) :
    Calls Tryd.prog 75 #[.pointer (some ⟨M.g, 0, none⟩)] w fun e w' => e = .returned (.tuple #[.int .i64 k, .int .i64 x]) ∧ Left M K sv kv w w' { S with stk := l } := by
  have hl : S.stk.length = l.length + 1 := by rw [hs]; simp
  obtain ⟨gs, cs, hsv, hgs1, hgs2⟩ := h.stk.form (by omega)
  obtain ⟨gk, ck, hkv, hgk1, hgk2⟩ := h.knd.form (by omega)
  have hcs : l.length + 1 ≤ cs := by
    obtain ⟨_, _, e, h1, _⟩ := own_slice h.stk
    rw [hsv] at e
    injection e with _ _ e3
    omega
  have hck : l.length + 1 ≤ ck := by
    obtain ⟨_, _, e, h1, _⟩ := own_slice h.knd
    rw [hkv] at e
    injection e with _ _ e3
    omega
  rw [hl] at hsv hkv
  subst hsv hkv
  have m16 : w.cell? ⟨M.g, 16, none⟩ = some (.slice (some ⟨gs, 0, none⟩) (l.length + 1) cs) := h.cell 16
  have m17 : w.cell? ⟨M.g, 17, none⟩ = some (.slice (some ⟨gk, 0, none⟩) (l.length + 1) ck) := h.cell 17
  have f16 := h.frozen 16
  have f17 := h.frozen 17
  have v1 : w.cell? ⟨gs, l.length, none⟩ = some (.int .i64 x) := by
    have := h.stk.cells (g := gs) rfl l.length (.int .i64 x) (by rw [hs]; simp)
    rw [Addr.add_lit, Nat.zero_add] at this
    exact this
  have v2 : w.cell? ⟨gk, l.length, none⟩ = some (.int .i64 k) := by
    have := h.knd.cells (g := gk) rfl l.length (.int .i64 k) (by rw [hs]; simp)
    rw [Addr.add_lit, Nat.zero_add] at this
    exact this
  have HM := Lib.hid h
  have HS := Lib.hid hs
  have HL := Lib.hid hl
  have hlm : (l.length : Int) ≤ 1000000000 := by have := h.hi; omega
  clear h hs hl
  go_enter Tryd.func75, Tryd.ntmps75
  have hcs' : (l.length : Int) ≤ cs := by omega
  have hck' : (l.length : Int) ≤ ck := by omega
  go_wp2_with fail
  go_quiet (fail)
  go_wp2_with fail
  go_region
  all_goals go_wp2
  go_ret2
  have M0 := HM.out
  refine ⟨rfl, .slice (some ⟨gs, 0, none⟩) l.length cs, .slice (some ⟨gk, 0, none⟩) l.length ck, ?_, (((Fr.refl M K w).drewN _).setG 16 _).setG 17 _, fun b hb f => ⟨(Below.heap_setCell _ ⟨M.g, 17, none⟩ _ b f.g).trans (Below.heap_setCell (w.drewN _) ⟨M.g, 16, none⟩ _ b f.g), ⟨f.g, f.c, f.s, f.k⟩⟩⟩
  have st := M0.stk
  have kn := M0.knd
  rw [HL.out] at st kn
  have st' := own_pop (k := l.length) st (by omega) (by omega)
  have kn' := own_pop (k := l.length) kn (by omega) (by omega)
  rw [HS.out, List.map_append, List.take_left' (by simp)] at st' kn'
  have hsg : (Value.slice (some ⟨gs, 0, none⟩) l.length cs).ownBlock ≠ some M.g := M0.stk_g
  have hkg : (Value.slice (some ⟨gk, 0, none⟩) l.length ck).ownBlock ≠ some M.g := M0.knd_g
  refine M0.fr (S' := { S with stk := l }) ((((Fr.refl M K w).drewN _).setG 16 _).setG 17 _) (blk_set (blk_set (w := w.drewN _) M0.blk 16 _) 17 _)
    (own_setFar (own_setFar (own_drewN M0.cells _) M0.c_g _) M0.c_g _) (own_setFar (own_setFar (own_drewN st' _) hsg _) hsg _) (own_setFar (own_setFar (own_drewN kn' _) hkg _) hkg _) M0.apart M0.bud (by have := M0.hi; rw [HL.out] at this; show l.length ≤ _; omega)
end Go.Proofs.YtngobbbinacomaaDoor
