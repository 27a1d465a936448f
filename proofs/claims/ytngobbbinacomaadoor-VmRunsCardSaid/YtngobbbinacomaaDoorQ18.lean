/- Chapter 14: a run whole. -/
import Derived.Test.YtngobbbinacomaaDoorQ17
import Derived.Lib.SliceRun
namespace Go.Proofs.YtngobbbinacomaaDoor
open Go.RowKit Go.Proofs.YtngobbbinacomaaDoor.c11 Go.Proofs.YtngobbbinacomaaDoor.c10
set_option linter.unusedVariables false
set_option linter.unusedSimpArgs false
attribute [local go_sem ↓] Go.wp_at_zero Go.wp_at_succ
/-- Onto a slice of nothing that was made: the new row, known whole. -/
theorem wpList_append_made {P : Program} {w : World} {ops : Array Oper} {rest : List Oper} {o : Oper} {a : Act} {Q : Exit → Act → World → Prop} (hgd : o.guard = none) (s x : Operand) (t : TypeId)
    (ho : o.op = .call { callee := .builtin .append, args := #[s, x], argTypes := #[t, t] })
    (e : TypeId) (i : TypeInfo) (z : Value) (size bytes : Nat) (ht : P.underlying t = some (.slice e)) (hi : P.info? e = some i) (hz : i.zero = some z)
    (hsize : i.size = size) (hby : i.bytes = bytes) (g : Addr) (hs : a.eval s = .slice (some g) 0 0)
    (B : Nat) (A : Option Addr) (m c : Nat) (news : List Value) (hx : a.eval x = .slice A m c) (hr : Row w B size A m news) (hm : 0 < m)
    (h63 : m ≤ 9223372036854775807) (hbytes : m * bytes ≤ 140737488355328)
    (h : ∀ cap k, m ≤ cap → cap ≤ maxLen → k = cap - m → wpList P ops Q rest (a.put o.dst (.slice (some ⟨w.heap.size, 0, none⟩) m cap)) (w.drew.alloc (.cells (news.toArray ++ Builtin.zeroCells z.cells k) e))) : wpList P ops Q (o :: rest) a w := by
  refine wpList_plain hgd fun K hK => ?_
  subst hsize
  subst hby
  obtain ⟨b, off, rfl, _, hcell⟩ := hr.2 hm
  have hnews : ∀ j u, news[j]? = some u → w.cell? ((⟨b, off, none⟩ : Addr).add j) = some u := fun j u hu => by rw [Addr.add_lit]; exact hcell j u hu
  have hrun := run_append_grow (P := P) w t o.type e i z ht hi hz g 0 0 [] (by simp) (by simp) ⟨b, off, none⟩ m c news hr.1 hnews (by omega) (by simp; omega) (growslice_fits (by omega) (by simpa using hbytes))
  have hge := grownCap_ge w (0 + m) 0 e
  have hcm : grownCap w (0 + m) 0 e ≤ maxLen := grownCap_le_maxLen w (0 + m) 0 e (by unfold maxLen; omega)
  unfold Oper.wp execOp
  simp only [ho, resolve, invoke, builtin, Sem.run_bind, Sem.run_pure, Result.andThen_ok, List.map_toArray, List.map_cons, List.map_nil, hs, hx, hrun]
  have h' := h (grownCap w (0 + m) 0 e) (grownCap w (0 + m) 0 e - (0 + m)) (by omega) hcm (by omega)
  have e1 : (0 + m) = m := Nat.zero_add m
  refine hK _ _ ?_
  simpa using h'
theorem alloc_blk (W : World) (cs : Array Value) (t : TypeId) : (W.alloc (.cells cs t)).heap[W.heap.size]? = some (.cells cs t (0, 0)) := by
  show (W.heap.push _)[W.heap.size]? = _
  simp
theorem alloc_blkAt (W : World) (cs : Array Value) (t : TypeId) (H : Nat) (h : H = W.heap.size) : (W.alloc (.cells cs t)).heap[H]? = some (.cells cs t (0, 0)) := by
  subst h
  exact alloc_blk W cs t
theorem zero_int (k : Nat) (z : Value) (h : z ∈ Builtin.zeroCells (Value.int .i64 0).cells k) : z = .int .i64 0 := by
  simp [Builtin.zeroCells, Value.cells] at h
  obtain ⟨i, hi, rfl⟩ := h
  simp [Nat.mod_one]
/-- Nothing appended: the slice itself. -/
theorem wpList_append_none {P : Program} {w : World} {ops : Array Oper} {rest : List Oper} {o : Oper} {a : Act} {Q : Exit → Act → World → Prop} (hgd : o.guard = none) (s x : Operand) (t : TypeId)
    (ho : o.op = .call { callee := .builtin .append, args := #[s, x], argTypes := #[t, t] })
    (e : TypeId) (i : TypeInfo) (ht : P.underlying t = some (.slice e)) (hi : P.info? e = some i) (A : Option Addr) (n c : Nat) (hn : n ≤ c) (hs : a.eval s = .slice A n c) (A' : Option Addr) (c' : Nat) (hx : a.eval x = .slice A' 0 c')
    (h : wpList P ops Q rest (a.put o.dst (.slice A n c)) w) : wpList P ops Q (o :: rest) a w := by
  refine wpList_plain hgd fun K hK => ?_
  have hrun := run_append_zero (P := P) w t o.type e i ht hi A n c hn A' c'
  unfold Oper.wp execOp
  simp only [ho, resolve, invoke, builtin, Sem.run_bind, Sem.run_pure, Result.andThen_ok, List.map_toArray, List.map_cons, List.map_nil, hs, hx, hrun]
  exact hK _ _ h
/-- A row of ints cloned: the new row is the call's own. -/
def CloneBack (B n : Nat) (xs : List Value) (w : World) (e : Ending) (w' : World) : Prop :=
  ∃ v, e = .returned v ∧ w'.ownsRow B 3 1 v n xs ∧ (∀ b, v.ownBlock = some b → ∀ o u, w'.cell? ⟨b, o, none⟩ = some u → ∃ z : Int, u = .int .i64 z) ∧ Below B w w'
set_option maxHeartbeats 2000000 in
theorem cloneI_any (A : Option Addr) (n c : Nat) (zs : List Int) (w : World) (hr : Row w w.heap.size 1 A n (zs.map (Value.int .i64))) (hn : n ≤ 1000000) (hc : n ≤ c) :
    Calls Tryd.prog 37 #[.slice A n c] w (CloneBack w.heap.size n (zs.map (Value.int .i64)) w) := by
  obtain ⟨i0, hi, hz0, hz1, hz2⟩ := info_parts machInt
  have t27 := machTy
  have q27 : ∀ (w : World) (a : Option Addr) (n c n' c' : Nat), (binOp .eql 22 (.slice a n c) (.slice none n' c')).run Tryd.prog w = .ok (.bool a.isNone) w := fun w a n c n' c' => Lib.run_eql_slice_nil w _ _ a n c n' c' t27
  have HR := Lib.hid hr
  rcases A with _ | a
  · have hn0 : n = 0 := by
      rcases Nat.eq_zero_or_pos n with h | h
      · exact h
      · obtain ⟨_, _, h', _⟩ := hr.2 h; cases h'
    have hx : zs = [] := List.eq_nil_of_length_eq_zero (by have := hr.1; simp at this; omega)
    clear hr
    subst hn0 hx
    go_enter Tryd.func37, Tryd.ntmps37
    go_wp2
    go_ret
    exact ⟨_, rfl, World.ownsRow_nil _ _ _ _, fun b hb => by simp [Value.ownBlock] at hb, Below.refl _ _⟩
  rcases Nat.eq_zero_or_pos n with hn0 | hn0
  · have hx : zs = [] := List.eq_nil_of_length_eq_zero (by have := hr.1; simp at this; omega)
    clear hr
    subst hn0 hx
    go_enter Tryd.func37, Tryd.ntmps37
    go_wp2_with (at_builtin; refine wpList_append_none rfl _ _ 22 rfl 3 i0 t27 hi _ _ _ (Nat.zero_le _) rfl (some a) c rfl ?_)
    go_ret
    refine ⟨_, rfl, World.ownsRow_made w #[] 0 (Nat.le_refl _) (Nat.zero_le _) rfl, fun b hb o u hu => ?_, (Below.refl _ w).alloc (Nat.le_refl _) _⟩
    simp [Value.ownBlock] at hb
    subst hb
    rw [World.cell?_alloc_new] at hu
    simp at hu
  · clear hr
    go_enter Tryd.func37, Tryd.ntmps37
    go_wp2_with (at_builtin; refine wpList_append_made rfl _ _ 22 rfl 3 i0 _ 1 8 t27 hi hz0 hz1 hz2 _ rfl w.heap.size (some a) n c (zs.map (Value.int .i64)) rfl (HR.out.alloc (Nat.le_refl _) _) hn0 (by omega) (by omega) ?_)
    intro cap k hcap hcm hk
    have HCAP := Lib.hid hcap
    have HCM := Lib.hid hcm
    have HK := Lib.hid hk
    clear hcap hcm hk
    try go_wp2
    go_ret
    have hcap := HCAP.out
    have hcm := HCM.out
    have hk := HK.out
    have hlen : zs.length = n := by have := HR.out.1; simpa using this
    refine ⟨_, rfl, ⟨(by simpa using hlen), .inr ⟨w.heap.size + 1, cap, (zs.map (Value.int .i64)).toArray ++ Builtin.zeroCells (Value.int .i64 0).cells k, ?_, ?_, ?_, ?_, ?_, ?_, ?_⟩⟩, fun b hb o u hu => ?_, ?_⟩
    · simp
    · omega
    · exact (by have h := alloc_blk (w.alloc (.cells #[] 3)).drew ((zs.map (Value.int .i64)).toArray ++ Builtin.zeroCells (Value.int .i64 0).cells k) 3; simpa using h : (((w.alloc (.cells #[] 3)).drew.alloc (.cells ((zs.map (Value.int .i64)).toArray ++ Builtin.zeroCells (Value.int .i64 0).cells k) 3)).heap[w.heap.size + 1]? = some (.cells ((zs.map (Value.int .i64)).toArray ++ Builtin.zeroCells (Value.int .i64 0).cells k) 3 (0, 0))))
    · exact hcap
    · exact hcm
    · simp [size_zeroCells, Value.cells]; omega
    · simp [hlen]
    · simp [Value.ownBlock] at hb
      subst hb
      have hu' : ((w.alloc (.cells #[] 3)).alloc (.cells ((zs.map (Value.int .i64)).toArray ++ Builtin.zeroCells (Value.int .i64 0).cells k) 3)).cell? ⟨w.heap.size + 1, o, none⟩ = some u := hu
      rw [show w.heap.size + 1 = (w.alloc (.cells #[] 3)).heap.size by simp, World.cell?_alloc_new] at hu'
      obtain ⟨z, hz⟩ : ∃ z : Int, u = .int .i64 z := by
        have hm := Array.mem_of_getElem? hu'
        rw [Array.mem_append] at hm
        rcases hm with hm | hm
        · simp at hm
          obtain ⟨z, _, hz⟩ := hm
          exact ⟨z, hz.symm⟩
        · exact ⟨0, zero_int k u hm⟩
      exact ⟨z, hz⟩
    · exact (((Below.refl _ w).alloc (Nat.le_refl _) _).drew).alloc (by simp) _
/-- An image as a run takes it. -/
structure Img (w : World) (E : Env) (SA : Option Addr) (SC : Nat) (l : List SymD) : Prop where
  syms : E.syms = .slice SA l.length SC
  row : Syms w w.heap.size SA l.length l
  few : l.length ≤ 10000
  sc : l.length ≤ SC ∧ SC ≤ 9223372036854775807
  lay : E.lay = cellsOf l
  consts : RowX w (fun b => b < w.heap.size) 1 E.Ca E.consts.length (E.consts.map (Value.int .i64))
  cc : E.consts.length ≤ E.Cc ∧ E.Cc ≤ 9223372036854775807
  funcs : RowX w (fun b => b < w.heap.size) 1 E.Fa E.funcs.length ((List.range E.funcs.length).map fun i => Value.slice (E.Fv i) (E.funcs.getD i []).length (E.Fl i))
  fc : E.funcs.length ≤ E.Fc ∧ E.Fc ≤ 9223372036854775807
  code : ∀ i b, E.funcs[i]? = some b → RowX w (fun b => b < w.heap.size) 1 (E.Fv i) b.length (b.map (Value.int .u8)) ∧ b.length ≤ E.Fl i ∧ E.Fl i ≤ 9223372036854775807 ∧ b.length ≤ 4611686018427387904 ∧ ∀ x ∈ b, 0 ≤ x ∧ x < 256
def atLay (E : Env) (La : Option Addr) (Lc : Nat) : Env := { E with La := La, Lc := Lc }
/-- What a run leaves. -/
def RunBack (E : Env) (S : St) (w : World) (e : Ending) (w' : World) : Prop :=
  Below w.heap.size w w' ∧ ∃ (La : Option Addr) (Lc : Nat),
    ((callP (atLay E La Lc) (S.left + 1) S 0).2 = 0 ∧ ∃ v, e = .returned (.tuple #[v, .agg #[.int .i64 (callP (atLay E La Lc) (S.left + 1) S 0).1.o0, .int .i64 (callP (atLay E La Lc) (S.left + 1) S 0).1.o1, .int .i64 (callP (atLay E La Lc) (S.left + 1) S 0).1.o2, .int .i64 (callP (atLay E La Lc) (S.left + 1) S 0).1.o3], .int .i64 (callP (atLay E La Lc) (S.left + 1) S 0).1.used, .int .i64 0]) ∧
      w'.ownsRow w.heap.size 3 1 v (callP (atLay E La Lc) (S.left + 1) S 0).1.cells.length ((callP (atLay E La Lc) (S.left + 1) S 0).1.cells.map (Value.int .i64))) ∨
    ((callP (atLay E La Lc) (S.left + 1) S 0).2 ≠ 0 ∧ e = .returned (.tuple #[.slice none 0 0, .agg #[.int .i64 0, .int .i64 0, .int .i64 0, .int .i64 0], .int .i64 (callP (atLay E La Lc) (S.left + 1) S 0).1.used, .int .i64 (callP (atLay E La Lc) (S.left + 1) S 0).2]))
theorem runBack_ok {E : Env} {S : St} {w w' : World} {e : Ending} {La : Option Addr} {Lc : Nat} {R : St} (hR : callP (atLay E La Lc) (S.left + 1) S 0 = (R, 0)) (hb : Below w.heap.size w w') (v : Value) (hown : w'.ownsRow w.heap.size 3 1 v R.cells.length (R.cells.map (Value.int .i64)))
    (he : e = .returned (.tuple #[v, .agg #[.int .i64 R.o0, .int .i64 R.o1, .int .i64 R.o2, .int .i64 R.o3], .int .i64 R.used, .int .i64 0])) : RunBack E S w e w' := by
  refine ⟨hb, La, Lc, .inl ?_⟩
  rw [hR]
  exact ⟨rfl, v, he, hown⟩
theorem runBack_err {E : Env} {S : St} {w w' : World} {e : Ending} {La : Option Addr} {Lc : Nat} {R : St} {x : Int} (hR : callP (atLay E La Lc) (S.left + 1) S 0 = (R, x)) (hb : Below w.heap.size w w') (hx : x ≠ 0)
    (he : e = .returned (.tuple #[.slice none 0 0, .agg #[.int .i64 0, .int .i64 0, .int .i64 0, .int .i64 0], .int .i64 R.used, .int .i64 x])) : RunBack E S w e w' := by
  refine ⟨hb, La, Lc, .inr ?_⟩
  rw [hR]
  exact ⟨hx, he⟩
theorem fr_below {M : Who} {K B : Nat} {a b : World} (h : Fr M K a b) (hK : B ≤ K) (hg : B ≤ M.g) (hc : ∀ x, M.C.ownBlock = some x → B ≤ x) : Below B a b :=
  ⟨h.os, h.tape, h.output, h.size, fun x hx => h.block x (by omega) (by omega) fun e => by have := hc x e; omega⟩
theorem SymAt.more {w : World} {B B' b off : Nat} {s : SymD} (h : SymAt w B b off s) (hB : B ≤ B') : SymAt w B' b off s := by
  obtain ⟨Fa, Fc, Ia, Ic, c0, c1, c2, c3, c4, c5, c6, h1, h2, h3, h4, h5⟩ := h
  exact ⟨Fa, Fc, Ia, Ic, c0, c1, c2, c3, c4, c5, c6, h1.more hB, h2, h3, h4.more hB, h5⟩
theorem Syms.more {w : World} {B B' : Nat} {A : Option Addr} {n : Nat} {l : List SymD} (h : Syms w B A n l) (hB : B ≤ B') : Syms w B' A n l :=
  ⟨h.len, fun hn => by
    obtain ⟨b, off, e, hlt, hs⟩ := h.at_ hn
    exact ⟨b, off, e, by omega, fun i s hi => (hs i s hi).more hB⟩, h.ok⟩
theorem RowX.mono {w : World} {X Y : Nat → Prop} {size n : Nat} {A : Option Addr} {xs : List Value} (h : RowX w X size A n xs) (hk : ∀ b, X b → Y b) : RowX w Y size A n xs :=
  ⟨h.1, fun hn => by
    obtain ⟨b, off, e, hb, hc⟩ := h.2 hn
    exact ⟨b, off, e, hk b hb, hc⟩⟩
/-- The machine that a run makes. -/
theorem mach_made {w wx : World} {E : Env} {SA : Option Addr} {SC : Nat} {l : List SymD} (hI : Img w E SA SC l) (g : Nat) (C : Value) (S : St) (La : Option Addr) (Lc : Nat) (hs : S.stk = [])
    (hg : wx.heap[g]? = some (.cells (mcells (atLay E La Lc) C (.slice none 0 0) (.slice none 0 0) S) 77 (0, 0))) (hg1 : w.heap.size ≤ g) (hg2 : g < wx.heap.size)
    (hC : wx.ownsRow w.heap.size 3 1 C S.cells.length (S.cells.map (Value.int .i64))) (hCg : ∀ b, C.ownBlock = some b → b < g) (hint : ∀ b, C.ownBlock = some b → ∀ o u, wx.cell? ⟨b, o, none⟩ = some u → ∃ z : Int, u = .int .i64 z)
    (hL : Row wx g 6 La E.lay.length (cellRow E.lay)) (hLc : E.lay.length ≤ Lc ∧ Lc ≤ 9223372036854775807) (hb : Below w.heap.size w wx) (hbud : S.used + S.left ≤ 1000000) :
    Mach ⟨g, C, wx.heap.size, w.heap.size, atLay E La Lc⟩ wx wx.heap.size (.slice none 0 0) (.slice none 0 0) S := by
  have hX : ∀ b, b < w.heap.size → Who.X ⟨g, C, wx.heap.size, w.heap.size, atLay E La Lc⟩ b := fun b hlt => ⟨Nat.lt_of_lt_of_le hlt hb.size, fun e => by subst e; exact absurd hlt (by simpa using hg1), fun e => by have := (hC.lt _ e).1; omega⟩
  have hk : ∀ b, b < w.heap.size → wx.heap[b]? = w.heap[b]? := fun b h => hb.block b h
  refine ⟨hg, hg2, Nat.le_refl _, Nat.le_refl _, hC, fun b hb' => ⟨Nat.lt_trans (hCg b hb') hg2, fun e => by have := hCg b hb'; simp only at e; omega⟩, ?_, ?_, .inl rfl, ⟨?_, hI.cc, ?_, hI.fc, ?_, ?_, hLc⟩, hbud, by simp [hs]⟩
  · rw [hs]; exact World.ownsRow_nil _ _ _ _
  · rw [hs]; exact World.ownsRow_nil _ _ _ _
  · exact (hI.consts.keep hk).mono hX
  · exact (hI.funcs.keep hk).mono hX
  · intro i b hi
    obtain ⟨h1, h2⟩ := hI.code i b hi
    exact ⟨(h1.keep hk).mono hX, h2⟩
  · refine ⟨hL.1, fun hn => ?_⟩
    obtain ⟨b, off, e, hlt, hc⟩ := hL.2 hn
    refine ⟨b, off, e, ⟨Nat.lt_trans hlt hg2, fun e => by simp only at e; omega, fun e => ?_⟩, hc⟩
    have h0 : ∃ z, (cellRow E.lay)[0]? = some (.string z) := by
      cases hx : E.lay with
      | nil => simp [atLay, hx] at hn
      | cons c t => exact ⟨_, rfl⟩
    obtain ⟨z, hz⟩ := h0
    obtain ⟨z', hz'⟩ := hint b e _ _ (hc 0 _ hz)
    cases hz'
theorem below3 {a b c : World} {B : Nat} (h : Below B a b) (hB : B ≤ b.heap.size) (h2 : Below b.heap.size b c) : Below B a c := h.trans (h2.mono hB)
theorem mach_run {w wb u2 u3 wx : World} {E : Env} {SA : Option Addr} {SC : Nat} {l : List SymD} (hI : Img w E SA SC l) (hb0 : Below w.heap.size w wb) (C : Value) (S : St) (hs : S.stk = []) (hbud : S.used + S.left ≤ 1000000) {B2 : Nat} (hB2 : w.heap.size ≤ B2)
    (ho2 : u2.ownsRow B2 3 1 C S.cells.length (S.cells.map (Value.int .i64))) (hi2 : ∀ b, C.ownBlock = some b → ∀ o u, u2.cell? ⟨b, o, none⟩ = some u → ∃ z : Int, u = .int .i64 z) (hb2 : Below wb.heap.size wb u2) (hb3 : Below u2.heap.size u2 u3)
    {La : Option Addr} {Lc : Nat} (hl3 : Row u3 u3.heap.size 6 La (cellsOf l).length (cellRow (cellsOf l))) (hlc : (cellsOf l).length ≤ Lc ∧ Lc ≤ 9223372036854775807) (hx : Below u3.heap.size u3 wx) (hxs : u3.heap.size < wx.heap.size)
    (hg : wx.heap[u3.heap.size]? = some (.cells (mcells (atLay E La Lc) C (.slice none 0 0) (.slice none 0 0) S) 77 (0, 0))) :
    Mach ⟨u3.heap.size, C, wx.heap.size, w.heap.size, atLay E La Lc⟩ wx wx.heap.size (.slice none 0 0) (.slice none 0 0) S := by
  have s0 := hb0.size
  have s2 := hb2.size
  have s3 := hb3.size
  have h2x : Below u2.heap.size u2 wx := hb3.trans (hx.mono s3)
  have hC := row_keep ho2 h2x
  have hlt : ∀ b, C.ownBlock = some b → b < u2.heap.size := fun b hb => (ho2.lt b hb).2
  have hC' : wx.ownsRow w.heap.size 3 1 C S.cells.length (S.cells.map (Value.int .i64)) := by
    refine ⟨hC.1, ?_⟩
    rcases hC.2 with h | ⟨g, cap, cur, h1, h2, h3⟩
    · exact .inl h
    · exact .inr ⟨g, cap, cur, h1, Nat.le_trans hB2 h2, h3⟩
  have hlay := hI.lay
  refine mach_made hI u3.heap.size C S La Lc hs hg (by omega) hxs hC' (fun b hb => by have := hlt b hb; omega) (fun b hb o u hu => hi2 b hb o u ((dcell h2x (hlt b hb) o).symm.trans hu)) ?_ (by rw [hlay]; exact hlc) (hb0.trans ((hb2.trans (h2x.mono s2)).mono s0)) hbud
  rw [hlay]
  exact hl3.below hx
theorem keepRun {u1 W' : World} {B H : Nat} {a0 a1 a2 b0 b1 b2 b3 c0 c1 c2 c3 : Value} (hb : Below B u1 W') (h : H + 3 < B) (k0 : u1.cell? ⟨H, 0, none⟩ = some a0) (k1 : u1.cell? ⟨H, 1, none⟩ = some a1) (k2 : u1.cell? ⟨H, 2, none⟩ = some a2)
    (l0 : u1.cell? ⟨H + 1, 0, none⟩ = some b0) (l1 : u1.cell? ⟨H + 1, 1, none⟩ = some b1) (l2 : u1.cell? ⟨H + 1, 2, none⟩ = some b2) (l3 : u1.cell? ⟨H + 1, 3, none⟩ = some b3)
    (m0 : u1.cell? ⟨H + 1 + 1, 0, none⟩ = some c0) (m1 : u1.cell? ⟨H + 1 + 1, 1, none⟩ = some c1) (m2 : u1.cell? ⟨H + 1 + 1, 2, none⟩ = some c2) (m3 : u1.cell? ⟨H + 1 + 1, 3, none⟩ = some c3) :
    W'.cell? ⟨H, 0, none⟩ = some a0 ∧ W'.cell? ⟨H, 1, none⟩ = some a1 ∧ W'.cell? ⟨H, 2, none⟩ = some a2 ∧ W'.cell? ⟨H + 1, 0, none⟩ = some b0 ∧ W'.cell? ⟨H + 1, 1, none⟩ = some b1 ∧ W'.cell? ⟨H + 1, 2, none⟩ = some b2 ∧ W'.cell? ⟨H + 1, 3, none⟩ = some b3 ∧
      W'.cell? ⟨H + 1 + 1, 0, none⟩ = some c0 ∧ W'.cell? ⟨H + 1 + 1, 1, none⟩ = some c1 ∧ W'.cell? ⟨H + 1 + 1, 2, none⟩ = some c2 ∧ W'.cell? ⟨H + 1 + 1, 3, none⟩ = some c3 := by
  refine ⟨?_, ?_, ?_, ?_, ?_, ?_, ?_, ?_, ?_, ?_, ?_⟩
  all_goals rw [dcell hb (by omega)]
  all_goals assumption
theorem blockP_cells (E : Env) (S : St) (a : Int) : (blockP E S a).cells.length = S.cells.length := by
  unfold blockP
  split
  · rename_i h
    have h6 : ∀ b c0 c1 c2 c3 c4 c5, (blockC E b c0 c1 c2 c3 c4 c5).length = 6 := fun b c0 c1 c2 c3 c4 c5 => by unfold blockC; split <;> (try split) <;> rfl
    simp [isAt] at h
    simp [h6]
    omega
  · rfl
theorem operateP_cells (S : St) (s a : Int) : (operateP S s a).1.cells = S.cells := by
  unfold operateP
  repeat (split; · simp [pushS, popS_cells])
  simp [popS_cells]
theorem memoryP_cells (E : Env) (S : St) (s a : Int) : (memoryP E S s a).1.cells.length = S.cells.length := by
  unfold memoryP
  split
  · simp only; split <;> simp [pushS]
  split
  · simp only; split <;> simp [popS_cells]
  split
  · split <;> simp [pushS, popS_cells]
  split
  · split <;> simp [popS_cells]
  split
  · exact blockP_cells E S a
  · rw [operateP_cells]
theorem doP_cells (E : Env) (S : St) (s a n : Int) : (doP E S s a n).1.cells.length = S.cells.length := by
  unfold doP
  split
  · simp [pushS]
  split
  · simp only; split <;> simp [pushS]
  split
  · simp only; split <;> simp [pushS]
  split
  · simp only
    split
    · unfold setOut
      repeat (split; · simp [popS_cells])
      simp [popS_cells]
    · simp [popS_cells]
  split
  · simp [pushS]
  · exact memoryP_cells E S s a
theorem execP_cells (E : Env) : ∀ (f : Nat) (b : List Int) (p : Int) (S : St), (execP E f b p S).1.cells.length = S.cells.length := by
  intro f
  induction f with
  | zero => intro b p S; simp [execP]
  | succ f ih =>
    intro b p S
    unfold execP
    split
    · rfl
    split
    · rfl
    split
    · rfl
    split
    · rw [ih]
    split
    · rw [ih, popS_cells]
    split
    · split
      · split
        · rw [ih]; simp only; rw [ih]
        · simp only; rw [ih]
      · rfl
    split
    · rw [ih, doP_cells]
    · rw [doP_cells]
theorem callP_cells (E : Env) (f : Nat) (S : St) (a : Int) : (callP E f S a).1.cells.length = S.cells.length := by
  unfold callP
  split
  · simp only; rw [execP_cells]
  · rfl
end Go.Proofs.YtngobbbinacomaaDoor

/- Chapter 14: a run whole. -/
namespace Go.Proofs.YtngobbbinacomaaDoor
open Go.RowKit Go.Proofs.YtngobbbinacomaaDoor.c11 Go.Proofs.YtngobbbinacomaaDoor.c10
set_option linter.unusedVariables false
set_option linter.unusedSimpArgs false
attribute [local go_sem ↓] Go.wp_at_zero Go.wp_at_succ
theorem own_mono {w : World} {b b' : Nat} {e : TypeId} {size n : Nat} {v : Value} {xs : List Value} (h : w.ownsRow b e size v n xs) (hb : b' ≤ b) : w.ownsRow b' e size v n xs := by
  refine ⟨h.1, ?_⟩
  rcases h.2 with h | ⟨g, cap, cur, h1, h2, h3⟩
  · exact .inl h
  · exact .inr ⟨g, cap, cur, h1, Nat.le_trans hb h2, h3⟩
set_option maxHeartbeats 4000000 in
theorem run_any (E : Env) (SA : Option Addr) (SC : Nat) (l : List SymD) (w : World) (hI : Img w E SA SC l) (hE : E.Ok) (hB : (∀ b ∈ E.funcs, ∀ x ∈ b, x ≠ 27) ∨ ∀ M K S a, 0 ≤ a → a ≤ 1000000 → BlockAt M K S a)
    (CA : Option Addr) (n CC : Nat) (zs : List Int) (hz : Row w w.heap.size 1 CA n (zs.map (Value.int .i64))) (hzn : n ≤ 1000000) (hzc : n ≤ CC) (o0 o1 o2 o3 budget : Int) (hbud : budget ≤ 1000000) :
    Calls Tryd.prog 22 #[.agg #[E.syms, .slice E.Ca E.consts.length E.Cc, .slice E.Fa E.funcs.length E.Fc], .slice CA n CC, .agg #[.int .i64 E.i0, .int .i64 E.i1, .int .i64 E.i2, .int .i64 E.i3], .agg #[.int .i64 o0, .int .i64 o1, .int .i64 o2, .int .i64 o3], .int .i64 E.now, .int .i64 budget] w
      (RunBack E ⟨zs, o0, o1, o2, o3, (max budget 0).toNat, 0, []⟩ w) := by
  have HI := Lib.hid hI
  have HZ := Lib.hid hz
  have HBK := Lib.hid hB
  have hsy := hI.syms
  obtain ⟨syms, consts, Ca, Cc, funcs, Fv, Fl, Fa, Fc, lay, La0, Lc0, i0, i1, i2, i3, now⟩ := E
  simp only at hsy
  subst hsy
  simp only
  have hnl : n = zs.length := by have := hz.1; simp at this; omega
  subst hnl
  clear hI hz hB
  go_enter Tryd.func22, Tryd.ntmps22
  go_upto_region 1 with fail
  obtain ⟨wb, hwb⟩ : ∃ x : World, x = ((((w.alloc (.cells #[.slice SA l.length SC, .slice Ca consts.length Cc, .slice Fa funcs.length Fc] 29)).alloc (.cells #[.int .i64 i0, .int .i64 i1, .int .i64 i2, .int .i64 i3] 23)).alloc
      (.cells #[.int .i64 o0, .int .i64 o1, .int .i64 o2, .int .i64 o3] 23)).alloc (.cells #[.int .i64 0, .int .i64 0, .int .i64 0, .int .i64 0] 23)) := ⟨_, rfl⟩
  have hsz : wb.heap.size = w.heap.size + 4 := by rw [hwb]; simp
  have hb0 : Below w.heap.size w wb := by rw [hwb]; exact (by repeat (first | (with_reducible exact Below.refl _ _) | (with_reducible refine Below.drew ?_) | (with_reducible refine below_dn _ ?_) | (with_reducible refine Below.alloc ?_ (by first | omega | (simp; done) | (simp; omega)) _)))
  have k0 : wb.cell? ⟨w.heap.size, 0, none⟩ = some (.slice SA l.length SC) := by rw [hwb]; go_simp
  have k1 : wb.cell? ⟨w.heap.size, 1, none⟩ = some (.slice Ca consts.length Cc) := by rw [hwb]; go_simp
  have k2 : wb.cell? ⟨w.heap.size, 2, none⟩ = some (.slice Fa funcs.length Fc) := by rw [hwb]; go_simp
  have l0 : wb.cell? ⟨w.heap.size + 1, 0, none⟩ = some (.int .i64 i0) := by rw [hwb]; go_simp
  have l1 : wb.cell? ⟨w.heap.size + 1, 1, none⟩ = some (.int .i64 i1) := by rw [hwb]; go_simp
  have l2 : wb.cell? ⟨w.heap.size + 1, 2, none⟩ = some (.int .i64 i2) := by rw [hwb]; go_simp
  have l3 : wb.cell? ⟨w.heap.size + 1, 3, none⟩ = some (.int .i64 i3) := by rw [hwb]; go_simp
  have m0 : wb.cell? ⟨w.heap.size + 1 + 1, 0, none⟩ = some (.int .i64 o0) := by rw [hwb]; go_simp
  have m1 : wb.cell? ⟨w.heap.size + 1 + 1, 1, none⟩ = some (.int .i64 o1) := by rw [hwb]; go_simp
  have m2 : wb.cell? ⟨w.heap.size + 1 + 1, 2, none⟩ = some (.int .i64 o2) := by rw [hwb]; go_simp
  have m3 : wb.cell? ⟨w.heap.size + 1 + 1, 3, none⟩ = some (.int .i64 o3) := by rw [hwb]; go_simp
  have hbt : wb.heap[w.heap.size + 1 + 1 + 1]? = some (.cells #[.int .i64 0, .int .i64 0, .int .i64 0, .int .i64 0] 23 (0, 0)) := by
    rw [hwb]
    exact alloc_blkAt _ _ _ _ (by simp)
  rw [← hwb]
  clear hwb
  have hlay := HI.out.lay
  simp only at hlay
  have hsw : w.heap.size ≤ wb.heap.size := by omega
  obtain ⟨mb, hmb⟩ : ∃ m : Int, m = max budget 0 := ⟨_, rfl⟩
  rw [← hmb]
  have hmb0 : 0 ≤ mb := by omega
  go_cut [16] (fun v wx => ∃ (g : Nat) (C : Value) (La : Option Addr) (Lc : Nat), v = .pointer (some ⟨g, 0, none⟩) ∧ w.heap.size + 3 < g ∧ Below w.heap.size w wx ∧ (∀ b, C.ownBlock = some b → w.heap.size + 4 ≤ b) ∧ wx.heap[w.heap.size + 1 + 1 + 1]? = some (.cells #[.int .i64 0, .int .i64 0, .int .i64 0, .int .i64 0] 23 (0, 0)) ∧
    Mach ⟨g, C, wx.heap.size, w.heap.size, atLay ⟨.slice SA l.length SC, consts, Ca, Cc, funcs, Fv, Fl, Fa, Fc, lay, La0, Lc0, i0, i1, i2, i3, now⟩ La Lc⟩ wx wx.heap.size (.slice none 0 0) (.slice none 0 0) ⟨zs, o0, o1, o2, o3, mb.toNat, 0, []⟩)
  case first =>
    obtain ⟨hbn, hbx⟩ | ⟨hbn, hbx⟩ : (¬ budget < 0 ∧ mb = budget) ∨ (budget < 0 ∧ mb = 0) := by omega
    all_goals clear hmb
    all_goals subst hbx
    all_goals go_region_held3 (fun w' => w'.cell? ⟨w.heap.size, 0, none⟩ = some (.slice SA l.length SC) ∧ w'.cell? ⟨w.heap.size, 1, none⟩ = some (.slice Ca consts.length Cc) ∧ w'.cell? ⟨w.heap.size, 2, none⟩ = some (.slice Fa funcs.length Fc) ∧ w'.cell? ⟨w.heap.size + 1, 0, none⟩ = some (.int .i64 i0) ∧ w'.cell? ⟨w.heap.size + 1, 1, none⟩ = some (.int .i64 i1) ∧ w'.cell? ⟨w.heap.size + 1, 2, none⟩ = some (.int .i64 i2) ∧ w'.cell? ⟨w.heap.size + 1, 3, none⟩ = some (.int .i64 i3) ∧ w'.cell? ⟨w.heap.size + 1 + 1, 0, none⟩ = some (.int .i64 o0) ∧ w'.cell? ⟨w.heap.size + 1 + 1, 1, none⟩ = some (.int .i64 o1) ∧ w'.cell? ⟨w.heap.size + 1 + 1, 2, none⟩ = some (.int .i64 o2) ∧ w'.cell? ⟨w.heap.size + 1 + 1, 3, none⟩ = some (.int .i64 o3)) (first | exact keepRun (B := wb.heap.size) (u1 := wb) (by repeat (first | (with_reducible exact HB2.out) | (with_reducible exact HB3.out) | (with_reducible exact Below.refl _ _) | (with_reducible refine Below.drew ?_) | (with_reducible refine below_dn _ ?_) | (with_reducible refine Below.alloc ?_ (by first | omega | (simp; done) | (simp; omega)) _))) (by omega) k0 k1 k2 l0 l1 l2 l3 m0 m1 m2 m3)
      (first | (go_at_call 37; refine (cloneI_any CA zs.length CC zs _ (((HZ.out.below hb0).more hsw |>.below (by repeat (first | (with_reducible exact HB2.out) | (with_reducible exact Below.refl _ _) | (with_reducible refine Below.drew ?_) | (with_reducible refine below_dn _ ?_) | (with_reducible refine Below.alloc ?_ (by first | omega | (simp; done) | (simp; omega)) _)))).more (by first | omega | (simp; done) | (simp; omega))) hzn hzc).mono ?_; rintro e u2 ⟨C2, rfl, ho2, hi2, hb2⟩; obtain ⟨Ac, cc, hC2, hcl, hcm⟩ := own_slice ho2; subst hC2; have HCC := Lib.hid (And.intro hcl hcm); clear hcl hcm; have z2 := hb2.size; (try simp at z2); have HO2 := Lib.hid ho2; have HN2 := Lib.hid hi2; have HB2 := Lib.hid (show Below wb.heap.size wb u2 from Below.trans (by repeat (first | (with_reducible exact HB3.out) | (with_reducible exact Below.refl _ _) | (with_reducible refine Below.drew ?_) | (with_reducible refine below_dn _ ?_) | (with_reducible refine Below.alloc ?_ (by first | omega | (simp; done) | (simp; omega)) _))) (hb2.mono (by first | omega | (simp; done) | (simp; omega)))); clear ho2 hi2 hb2) | (go_at_call 38; refine (cells_any SA l.length SC l _ (((HI.out.row.below hb0).more hsw |>.below (by repeat (first | (with_reducible exact HB2.out) | (with_reducible exact Below.refl _ _) | (with_reducible refine Below.drew ?_) | (with_reducible refine below_dn _ ?_) | (with_reducible refine Below.alloc ?_ (by first | omega | (simp; done) | (simp; omega)) _)))).more (by first | omega | (simp; done) | (simp; omega))) HI.out.few HI.out.sc.1 HI.out.sc.2).mono ?_; rintro e u3 ⟨⟨La, Lc, rfl, hl1, hl2, hl3⟩, hb3⟩; have z3 := hb3.size; (try simp at z3); have HL3 := Lib.hid hl3; have HC3 := Lib.hid (And.intro hl1 hl2); have HE3 := Lib.hid (show Below u2.heap.size u2 u3 from Below.trans (by repeat (first | (with_reducible exact HB2.out) | (with_reducible exact Below.refl _ _) | (with_reducible refine Below.drew ?_) | (with_reducible refine below_dn _ ?_) | (with_reducible refine Below.alloc ?_ (by first | omega | (simp; done) | (simp; omega)) _))) (hb3.mono (by first | omega | (simp; done) | (simp; omega)))); have HB3 := Lib.hid (show Below wb.heap.size wb u3 from Below.trans (by repeat (first | (with_reducible exact HB2.out) | (with_reducible exact Below.refl _ _) | (with_reducible refine Below.drew ?_) | (with_reducible refine below_dn _ ?_) | (with_reducible refine Below.alloc ?_ (by first | omega | (simp; done) | (simp; omega)) _))) (hb3.mono (by first | omega | (simp; done) | (simp; omega)))); clear hl1 hl2 hl3 hb3))
    all_goals (try go_wp2_with fail)
    all_goals go_meet
    all_goals refine ⟨_, .slice Ac zs.length cc, La, Lc, rfl, (by omega), below3 hb0 hsw (below3 HB3.out (by omega) (by repeat (first | (with_reducible exact Below.refl _ _) | (with_reducible refine Below.drew ?_) | (with_reducible refine below_dn _ ?_) | (with_reducible refine Below.alloc ?_ (by first | omega | (simp; done) | (simp; omega)) _)))), (fun b hb => by have := (HO2.out.lt b hb).1; first | omega | (simp at this; omega)), ?_, ?_⟩
    rotate_left 1
    all_goals first | (refine ((below3 HB3.out (by omega) (by repeat (first | (with_reducible exact Below.refl _ _) | (with_reducible refine Below.drew ?_) | (with_reducible refine below_dn _ ?_) | (with_reducible refine Below.alloc ?_ (by first | omega | (simp; done) | (simp; omega)) _)))).block _ (by omega)).trans hbt) | skip
    all_goals refine mach_run HI.out hb0 (.slice Ac zs.length cc) _ rfl ?_ ?_ HO2.out HN2.out HB2.out HE3.out HL3.out HC3.out (by repeat (first | (with_reducible exact Below.refl _ _) | (with_reducible refine Below.drew ?_) | (with_reducible refine below_dn _ ?_) | (with_reducible refine Below.alloc ?_ (by first | omega | (simp; done) | (simp; omega)) _))) (by simp) ?_
    all_goals first | (with_reducible (show _ ≤ _); first | omega | (simp; done) | (simp; omega)) | skip
    all_goals refine (alloc_blkAt _ _ _ _ (by first | rfl | simp)).trans ?_
    all_goals first | (simp [mcells, atLay, hlay]; done) | (simp [mcells, atLay, hlay]; omega)
  case rest =>
    subst hmb
    obtain ⟨g, C, La, Lc, rfl, hg, hbx, hCb, hvx, hM⟩ := hcut
    generalize hwd : wc = wx at *
    clear hwd k0 k1 k2 l0 l1 l2 l3 m0 m1 m2 m3 hb0 hbt hsz hsw
    have HM := Lib.hid hM
    have HBX := Lib.hid hbx
    have hzx := hM.gK
    have hC0 := hM.cK
    have HFN := Lib.hid (fun_any _ (show Env.Ok (Who.E ⟨g, C, wx.heap.size, w.heap.size, atLay ⟨.slice SA l.length SC, consts, Ca, Cc, funcs, Fv, Fl, Fa, Fc, lay, La0, Lc0, i0, i1, i2, i3, now⟩ La Lc⟩) from hE) (show Blocks ⟨g, C, wx.heap.size, w.heap.size, atLay ⟨.slice SA l.length SC, consts, Ca, Cc, funcs, Fv, Fl, Fa, Fc, lay, La0, Lc0, i0, i1, i2, i3, now⟩ La Lc⟩ from HBK.out.elim .inl fun h => .inr fun K S a h0 h1 => h _ K S a h0 h1) ((max budget 0).toNat + 1))
    obtain ⟨R, hR⟩ : ∃ R, callP (atLay ⟨.slice SA l.length SC, consts, Ca, Cc, funcs, Fv, Fl, Fa, Fc, lay, La0, Lc0, i0, i1, i2, i3, now⟩ La Lc) ((max budget 0).toNat + 1) ⟨zs, o0, o1, o2, o3, (max budget 0).toNat, 0, []⟩ 0 = R := ⟨_, rfl⟩
    have HRR := Lib.hid hR
    have HCALL := Lib.hid (show CallAt ⟨g, C, wx.heap.size, w.heap.size, atLay ⟨.slice SA l.length SC, consts, Ca, Cc, funcs, Fv, Fl, Fa, Fc, lay, La0, Lc0, i0, i1, i2, i3, now⟩ La Lc⟩ wx.heap.size ⟨zs, o0, o1, o2, o3, (max budget 0).toNat, 0, []⟩ 0 R by
      have h := call_any _ ((max budget 0).toNat + 1) HFN.out wx.heap.size ⟨zs, o0, o1, o2, o3, (max budget 0).toNat, 0, []⟩ 0 (Nat.lt_succ_self _)
      subst hR
      exact h)
    clear hM HFN hR
    obtain ⟨R1, R2⟩ := R
    by_cases hr0 : R2 = 0
    · subst hr0
      go_upto_region 5 with (go_at_call 39; refine (HCALL.out _ _ _ HM.out).mono ?_; rintro e w2 ⟨rfl, hl⟩; obtain ⟨sv, kv, hM2, hF, hfar⟩ := hl; have HM2 := Lib.hid hM2; have HF := Lib.hid hF; clear hM2 hF hfar)
      have hvb : w2.heap[w.heap.size + 1 + 1 + 1]? = some (.cells #[.int .i64 0, .int .i64 0, .int .i64 0, .int .i64 0] 23 (0, 0)) := (HF.out.block (w.heap.size + 1 + 1 + 1) (by omega) (show w.heap.size + 1 + 1 + 1 ≠ g by omega) (fun e => by have := hCb _ e; omega)).trans hvx
      have g0 : w2.cell? ⟨g, 0, none⟩ = some C := HM2.out.cell 0
      have g1 : w2.cell? ⟨g, 1, none⟩ = some (.int .i64 R1.o0) := HM2.out.cell 1
      have g2 : w2.cell? ⟨g, 2, none⟩ = some (.int .i64 R1.o1) := HM2.out.cell 2
      have g3 : w2.cell? ⟨g, 3, none⟩ = some (.int .i64 R1.o2) := HM2.out.cell 3
      have g4 : w2.cell? ⟨g, 4, none⟩ = some (.int .i64 R1.o3) := HM2.out.cell 4
      have g15 : w2.cell? ⟨g, 15, none⟩ = some (.int .i64 R1.used) := HM2.out.cell 15
      have v0 : ∀ j, w2.cell? ⟨w.heap.size + 1 + 1 + 1, j, none⟩ = (#[.int .i64 0, .int .i64 0, .int .i64 0, .int .i64 0] : Array Value)[j]? := fun j => cell_of_row w2 _ j _ _ (0, 0) hvb
      have vf : ∀ j, w2.frozen? ⟨w.heap.size + 1 + 1 + 1, j, none⟩ = false := fun j => by simp [World.frozen?, hvb]
      have hgne : ¬ g = w.heap.size + 1 + 1 + 1 := by omega
      have hgnf : ¬ w.heap.size + 1 + 1 + 1 = g := by omega
      have a0 := v0 0
      have a1 := v0 1
      have a2 := v0 2
      have a3 := v0 3
      have f0 := vf 0
      have f1 := vf 1
      have f2 := vf 2
      have f3 := vf 3
      simp at a0 a1 a2 a3
      clear v0 vf
      have hbF : Below w.heap.size w w2 := HBX.out.trans (fr_below HF.out (by omega) (show w.heap.size ≤ g by omega) (fun x hx => by have := hCb x hx; omega))
      obtain ⟨Ac, cc, hC, hcl, hcm⟩ := own_slice HM2.out.cells
      have HRow := Lib.hid (Row.of_own (hC ▸ HM2.out.cells : w2.ownsRow w.heap.size 3 1 (.slice Ac R1.cells.length cc) R1.cells.length (R1.cells.map (Value.int .i64))))
      have g0' : w2.cell? ⟨g, 0, none⟩ = some (.slice Ac R1.cells.length cc) := by rw [← hC]; exact g0
      have hgs : g < w2.heap.size := Nat.lt_of_lt_of_le hzx HF.out.size
      have hn : R1.cells.length ≤ 1000000 := by
        have h := callP_cells (atLay ⟨.slice SA l.length SC, consts, Ca, Cc, funcs, Fv, Fl, Fa, Fc, lay, La0, Lc0, i0, i1, i2, i3, now⟩ La Lc) ((max budget 0).toNat + 1) ⟨zs, o0, o1, o2, o3, (max budget 0).toNat, 0, []⟩ 0
        rw [HRR.out] at h
        simp only at h
        omega
      clear g0
      have hvs : w.heap.size + 1 + 1 + 1 < w2.heap.size := by omega
      go_region_held3 (fun w' => w'.cell? ⟨g, 0, none⟩ = some (.slice Ac R1.cells.length cc) ∧ w'.cell? ⟨g, 1, none⟩ = some (.int .i64 R1.o0) ∧ w'.cell? ⟨g, 2, none⟩ = some (.int .i64 R1.o1) ∧ w'.cell? ⟨g, 3, none⟩ = some (.int .i64 R1.o2) ∧ w'.cell? ⟨g, 4, none⟩ = some (.int .i64 R1.o3) ∧ w'.cell? ⟨g, 15, none⟩ = some (.int .i64 R1.used)) (refine ⟨?_, ?_, ?_, ?_, ?_, ?_⟩ <;> (go_simp; done))
        (first | (go_at_call 37; refine (cloneI_any Ac R1.cells.length cc R1.cells _ ((HRow.out.below (by repeat (first | (with_reducible exact Below.refl _ _) | (with_reducible refine Below.drew ?_) | (with_reducible refine below_dn _ ?_) | (with_reducible refine Below.alloc ?_ (by first | omega | (simp; done) | (simp; omega)) _)))).more (by first | omega | (simp; done) | (simp; omega))) hn hcl).mono ?_; rintro e u4 ⟨C4, rfl, ho4, hi4, hb4⟩; obtain ⟨A4, c4, hC4, _, _⟩ := own_slice ho4; subst hC4; have z4 := hb4.size; (try simp at z4); have HO4 := Lib.hid ho4; have HB4 := Lib.hid (show Below w2.heap.size w2 u4 from Below.trans (by repeat (first | (with_reducible exact Below.refl _ _) | (with_reducible refine Below.drew ?_) | (with_reducible refine below_dn _ ?_) | (with_reducible refine Below.alloc ?_ (by first | omega | (simp; done) | (simp; omega)) _))) (hb4.mono (by first | omega | (simp; done) | (simp; omega)))); have q0 := (dcell HB4.out hgs 0).trans g0'; have q1 := (dcell HB4.out hgs 1).trans g1; have q2 := (dcell HB4.out hgs 2).trans g2; have q3 := (dcell HB4.out hgs 3).trans g3; have q4 := (dcell HB4.out hgs 4).trans g4; have q15 := (dcell HB4.out hgs 15).trans g15; (try have qa0 := (dcell HB4.out hvs 0).trans a0); (try have qf0 := (dfroz HB4.out hvs 0).trans f0); (try have qa1 := (dcell HB4.out hvs 1).trans a1); (try have qf1 := (dfroz HB4.out hvs 1).trans f1); (try have qa2 := (dcell HB4.out hvs 2).trans a2); (try have qf2 := (dfroz HB4.out hvs 2).trans f2); (try have qa3 := (dcell HB4.out hvs 3).trans a3); (try have qf3 := (dfroz HB4.out hvs 3).trans f3); clear ho4 hi4 hb4))
      go_wp2_with fail
      have hO := own_mono HO4.out (show w.heap.size ≤ _ by first | omega | (simp; omega))
      have hA : Value.ownBlock (.slice A4 R1.cells.length c4) ≠ some (w.heap.size + 1 + 1 + 1) := fun e => by have := (HO4.out.lt _ e).1; first | omega | (simp at this; omega)
      all_goals refine bodyPost_ret (v := .tuple #[.slice A4 R1.cells.length c4, .agg #[.int .i64 R1.o0, .int .i64 R1.o1, .int .i64 R1.o2, .int .i64 R1.o3], .int .i64 R1.used, .int .i64 0]) (by simp [results, Tryd.results22, go_sem, qa0, qa1, qa2, qa3]) rfl (runBack_ok HRR.out ?_ _ ?_ rfl)
      · repeat (first | exact below3 hbF (by omega) HB4.out | refine Below.drew ?_ | refine Below.setCell ?_ (by first | omega | (simp; done) | (simp; omega)) _)
      · exact own_setFar (own_setFar (own_setFar (own_setFar hO hA _) hA _) hA _) hA _
    · go_upto_region 4 with (go_at_call 39; refine (HCALL.out _ _ _ HM.out).mono ?_; rintro e w2 ⟨rfl, hl⟩; obtain ⟨sv, kv, hM2, hF, hfar⟩ := hl; have HM2 := Lib.hid hM2; have HF := Lib.hid hF; clear hM2 hF hfar)
      have hvb : w2.heap[w.heap.size + 1 + 1 + 1]? = some (.cells #[.int .i64 0, .int .i64 0, .int .i64 0, .int .i64 0] 23 (0, 0)) := (HF.out.block (w.heap.size + 1 + 1 + 1) (by omega) (show w.heap.size + 1 + 1 + 1 ≠ g by omega) (fun e => by have := hCb _ e; omega)).trans hvx
      have g0 : w2.cell? ⟨g, 0, none⟩ = some C := HM2.out.cell 0
      have g1 : w2.cell? ⟨g, 1, none⟩ = some (.int .i64 R1.o0) := HM2.out.cell 1
      have g2 : w2.cell? ⟨g, 2, none⟩ = some (.int .i64 R1.o1) := HM2.out.cell 2
      have g3 : w2.cell? ⟨g, 3, none⟩ = some (.int .i64 R1.o2) := HM2.out.cell 3
      have g4 : w2.cell? ⟨g, 4, none⟩ = some (.int .i64 R1.o3) := HM2.out.cell 4
      have g15 : w2.cell? ⟨g, 15, none⟩ = some (.int .i64 R1.used) := HM2.out.cell 15
      have v0 : ∀ j, w2.cell? ⟨w.heap.size + 1 + 1 + 1, j, none⟩ = (#[.int .i64 0, .int .i64 0, .int .i64 0, .int .i64 0] : Array Value)[j]? := fun j => cell_of_row w2 _ j _ _ (0, 0) hvb
      have vf : ∀ j, w2.frozen? ⟨w.heap.size + 1 + 1 + 1, j, none⟩ = false := fun j => by simp [World.frozen?, hvb]
      have hgne : ¬ g = w.heap.size + 1 + 1 + 1 := by omega
      have hgnf : ¬ w.heap.size + 1 + 1 + 1 = g := by omega
      have a0 := v0 0
      have a1 := v0 1
      have a2 := v0 2
      have a3 := v0 3
      have f0 := vf 0
      have f1 := vf 1
      have f2 := vf 2
      have f3 := vf 3
      simp at a0 a1 a2 a3
      clear v0 vf
      have hbF : Below w.heap.size w w2 := HBX.out.trans (fr_below HF.out (by omega) (show w.heap.size ≤ g by omega) (fun x hx => by have := hCb x hx; omega))
      go_region
      go_wp2_with fail
      all_goals refine bodyPost_ret (v := .tuple #[.slice none 0 0, .agg #[.int .i64 0, .int .i64 0, .int .i64 0, .int .i64 0], .int .i64 R1.used, .int .i64 R2]) (by simp [results, Tryd.results22, go_sem, a0, a1, a2, a3]) rfl (runBack_err HRR.out ?_ hr0 rfl)
      all_goals repeat (first | exact hbF | refine Below.drew ?_ | refine Below.setCell ?_ (by first | omega | (simp; done) | (simp; omega)) _)
end Go.Proofs.YtngobbbinacomaaDoor

/- Chapter 14: runs of one function. -/
namespace Go.Proofs.YtngobbbinacomaaDoor
open Go.RowKit Go.Proofs.YtngobbbinacomaaDoor.c11 Go.Proofs.YtngobbbinacomaaDoor.c10
set_option linter.unusedVariables false
set_option linter.unusedSimpArgs false
attribute [local go_sem ↓] Go.wp_at_zero Go.wp_at_succ
theorem ex_trip {E : Env} {f : Nat} {b : List Int} {p : Int} {S : St} (h : S.left = 0) : execP E f b p S = (S, 23) := by
  cases f with
  | zero => rfl
  | succ f => rw [execP, if_pos h]
/-- within(a, n) is a modulo n, from 0 on. -/
theorem within14_any (a n : Int) (hn : 0 < n) (hn' : n ≤ 4611686018427387904) (w : World) :
    Calls Tryd.prog 21 #[.int .i64 a, .int .i64 n] w fun e w' => e = .returned (.int .i64 (a % n)) ∧ w = w' := by
  have h1 := Int.emod_nonneg a (show n ≠ 0 by omega)
  have h2 := Int.emod_lt_of_pos a hn
  have h3 : a.tmod n = if 0 ≤ a ∨ a % n = 0 then a % n else a % n - n := by
    rw [Int.tmod_eq_emod]
    by_cases h : 0 ≤ a ∨ n ∣ a
    · rw [if_pos h, if_pos]
      · omega
      · rcases h with h | h
        · exact .inl h
        · exact .inr (Int.emod_eq_zero_of_dvd h)
    · rw [if_neg h, if_neg]
      · rw [Int.natAbs_of_nonneg (by omega)]
      · intro hh
        rcases hh with hh | hh
        · exact h (.inl hh)
        · exact h (.inr (Int.dvd_of_emod_eq_zero hh))
  have h4 : ¬ n = 0 := by omega
  by_cases hneg : a.tmod n < 0
  · have H : Hid (a.tmod n + n = a % n) := Lib.hid (by split at h3 <;> omega)
    have hb : -n < a.tmod n := by split at h3 <;> omega
    clear h3 h1 h2
    go_enter Tryd.func21, Tryd.ntmps21
    go_wp2
    go_ret
    exact ⟨qret H.out, rfl⟩
  · have H : Hid (a.tmod n = a % n) := Lib.hid (by split at h3 <;> omega)
    clear h3 h1 h2
    go_enter Tryd.func21, Tryd.ntmps21
    go_wp2
    go_ret
    exact ⟨qret H.out, rfl⟩
/-- One function's code, as an image's row holds it. -/
structure CodeIn (w : World) (B f g : Nat) (b : List Int) : Prop where
  cf : w.cell? ⟨f, 0, none⟩ = some (.slice (some ⟨g, 0, none⟩) b.length b.length)
  cg : ∀ j u, (b.map (Value.int .u8))[j]? = some u → w.cell? ⟨g, j, none⟩ = some u
  lf : f < B
  lg : g < B
theorem CodeIn.below {w w' : World} {B f g : Nat} {b : List Int} (h : CodeIn w B f g b) (hb : Below B w w') : CodeIn w' B f g b :=
  ⟨(dcell hb h.lf 0).trans h.cf, fun j u hu => (dcell hb h.lg j).trans (h.cg j u hu), h.lf, h.lg⟩
theorem CodeIn.more {w : World} {B B' f g : Nat} {b : List Int} (h : CodeIn w B f g b) (hB : B ≤ B') : CodeIn w B' f g b := ⟨h.cf, h.cg, Nat.lt_of_lt_of_le h.lf hB, Nat.lt_of_lt_of_le h.lg hB⟩
def env1 (b : List Int) (f g : Nat) (i0 i1 i2 i3 now : Int) : Env :=
  ⟨.slice none 0 0, [], none, 0, [b], fun _ => some ⟨g, 0, none⟩, fun _ => b.length, some ⟨f, 0, none⟩, 1, [], none, 0, i0, i1, i2, i3, now⟩
theorem img1 {w : World} {f g : Nat} {b : List Int} (h : CodeIn w w.heap.size f g b) (hb : ∀ x ∈ b, 0 ≤ x ∧ x < 256) (hl : b.length ≤ 4611686018427387904) (i0 i1 i2 i3 now : Int) : Img w (env1 b f g i0 i1 i2 i3 now) none 0 [] := by
  refine ⟨rfl, ⟨rfl, fun h => absurd h (by simp), fun s hs => by cases hs⟩, by simp, ⟨by simp, by omega⟩, rfl, ⟨rfl, fun h => absurd h (by simp [env1])⟩, ⟨Nat.le_refl _, by simp [env1]⟩, ⟨by simp [env1], fun _ => ⟨f, 0, rfl, h.lf, ?_⟩⟩, ⟨Nat.le_refl _, by simp [env1]⟩, ?_⟩
  · intro j u hu
    simp [env1] at hu
    cases j with
    | zero => simp at hu; subst hu; simpa using h.cf
    | succ j => simp at hu
  · intro i c hi
    cases i with
    | succ i => simp [env1] at hi
    | zero =>
      simp [env1] at hi
      subst hi
      refine ⟨⟨by simp, fun _ => ⟨g, 0, rfl, h.lg, fun j u hu => ?_⟩⟩, Nat.le_refl _, by simp only [env1]; omega, hl, hb⟩
      have := h.cg j u hu
      simpa using this
/-- A run of one function, no variables, no cells. -/
theorem run1 {w : World} {f g : Nat} {b : List Int} (h : CodeIn w w.heap.size f g b) (hb : ∀ x ∈ b, 0 ≤ x ∧ x < 256) (h27 : ∀ x ∈ b, x ≠ 27) (hl : b.length ≤ 4611686018427387904) (i0 i1 i2 i3 o0 o1 o2 o3 now budget : Int) (hbud : budget ≤ 1000000)
    {R : St} {x : Int} (hR : ∀ La Lc, execP (atLay (env1 b f g i0 i1 i2 i3 now) La Lc) ((max budget 0).toNat + 1) b 0 ⟨[], o0, o1, o2, o3, (max budget 0).toNat, 0, []⟩ = (R, x)) (hRc : R.cells = []) :
    Calls Tryd.prog 22 #[.agg #[.slice none 0 0, .slice none 0 0, .slice (some ⟨f, 0, none⟩) 1 1], .slice none 0 0, .agg #[.int .i64 i0, .int .i64 i1, .int .i64 i2, .int .i64 i3], .agg #[.int .i64 o0, .int .i64 o1, .int .i64 o2, .int .i64 o3], .int .i64 now, .int .i64 budget] w fun e w' =>
      Below w.heap.size w w' ∧ ∃ v, e = .returned (.tuple #[v, .agg #[.int .i64 (if x = 0 then R.o0 else 0), .int .i64 (if x = 0 then R.o1 else 0), .int .i64 (if x = 0 then R.o2 else 0), .int .i64 (if x = 0 then R.o3 else 0)], .int .i64 R.used, .int .i64 x]) ∧ w'.ownsRow w.heap.size 3 1 v 0 [] := by
  refine (run_any (env1 b f g i0 i1 i2 i3 now) none 0 [] w (img1 h hb hl i0 i1 i2 i3 now) (fun c hc => by cases hc) (.inl fun c hc x hx => by simp [env1] at hc; subst hc; exact h27 x hx) none 0 0 [] Row.nil (by omega) (Nat.le_refl _) o0 o1 o2 o3 budget hbud).mono ?_
  rintro e w' ⟨hbl, La, Lc, hh⟩
  have hc : callP (atLay (env1 b f g i0 i1 i2 i3 now) La Lc) ((max budget 0).toNat + 1) ⟨[], o0, o1, o2, o3, (max budget 0).toNat, 0, []⟩ 0 = ({ R with stk := [] }, x) := by
    unfold callP
    rw [if_pos (by simp [atLay, env1])]
    have := hR La Lc
    rw [show ((atLay (env1 b f g i0 i1 i2 i3 now) La Lc).funcs.getD (0 : Int).toNat []) = b from rfl, this]
  simp only [hc] at hh
  refine ⟨hbl, ?_⟩
  rcases hh with ⟨h0, v, he, hv⟩ | ⟨h0, he⟩
  · subst h0
    refine ⟨v, by simpa using he, ?_⟩
    rw [hRc] at hv
    simpa using hv
  · exact ⟨_, by simpa [h0] using he, World.ownsRow_nil _ _ _ _⟩
end Go.Proofs.YtngobbbinacomaaDoor
