/- Chapter 12's Sound: a program of numbers. -/
import Derived.Test.YtngobbbinacomaaDoorQ27
import Derived.Test.YtngobbbinacomaaDoorQ28
import Derived.Deep.RegionLaw
import Derived.Deep.DeepCutAuto
import Derived.Deep.RegionHeld3
import Derived.BigRegion
namespace Go.Proofs.YtngobbbinacomaaDoor
open Go.RowKit Go.Proofs.YtngobbbinacomaaDoor.c11 Go.Proofs.YtngobbbinacomaaDoor.c10
set_option linter.unusedVariables false
set_option linter.unusedSimpArgs false
attribute [local go_sem ↓] Go.wp_at_zero Go.wp_at_succ
theorem step_append_ownS {P : Program} {ops : Array Oper} {o : Oper} {a : Act} {w : World} {K : Act → World → Prop} {Q : Exit → Act → World → Prop} {E : Prop}
    (hg : o.guard = none) (s x : Operand) (t : TypeId) (ho : o.op = .call { callee := .builtin .append, args := #[s, x], argTypes := #[t, t] })
    (base : Nat) (e : TypeId) (i : TypeInfo) (z : Value) (size bytes : Nat) (ht : P.underlying t = some (.slice e)) (hi : P.info? e = some i) (hz : i.zero = some z)
    (hsize : i.size = size) (hby : i.bytes = bytes) (hzs : z.cells.size = size) (hsz : 0 < size)
    (v : Value) (n : Nat) (xs : List Value) (hs : a.eval s = v) (hown : w.ownsRow base e size v n xs)
    (ad : Addr) (m c : Nat) (news : List Value) (hx : a.eval x = .slice (some ad) m c) (hl : news.length = m * size) (hnews : ∀ j u, news[j]? = some u → w.cell? (ad.add j) = some u) (h1 : ∀ u ∈ news, u.oneCell' = true)
    (h63 : n + m ≤ maxLen) (hbytes : (n + m) * bytes ≤ 140737488355328) (hbase : base ≤ w.heap.size)
    (h : ∀ v' w', w'.ownsRow base e size v' (n + m) (xs ++ news) → w.grownBy w' v.ownBlock → (v' = .slice none 0 0 ↔ v = .slice none 0 0 ∧ m = 0) → K (a.put o.dst v') w') :
    if Region.wanted o (yielded ops a.tmps) = true then Oper.wp P o a w K Q else E := by
  have hw : Region.wanted o (yielded ops a.tmps) = true := by simp [Region.wanted, hg]
  rw [if_pos hw]
  exact wp_append_own w s x t ho base e i z size bytes ht hi hz hsize hby hzs hsz v n xs hs hown ad m c news hx hl hnews h1 h63 hbytes hbase h
/-- A function of numbers: code that is made, and its end. -/
def CodeMade (cells : List CellD) (funcs : Int) (b : List Int) : Prop := ∃ sp bs st, Made cells funcs sp bs st ∧ bs.length ≤ 99 ∧ b = bs ++ [0]
theorem CodeMade.len {cells : List CellD} {funcs : Int} {b : List Int} (h : CodeMade cells funcs b) : 0 < b.length ∧ b.length ≤ 100 := by
  obtain ⟨sp, bs, st, _, h1, rfl⟩ := h
  simp
  omega
theorem CodeMade.bytes {cells : List CellD} (hk : KindsOk cells) {funcs : Int} {b : List Int} (h : CodeMade cells funcs b) : ∀ x ∈ b, 0 ≤ x ∧ x < 256 := by
  obtain ⟨sp, bs, st, h1, _, rfl⟩ := h
  intro x hx
  rcases List.mem_append.1 hx with hx | hx
  · exact (h1.ok hk).bytes x hx
  · simp at hx; subst hx; decide
theorem Came.front {w : World} {A : Option Addr} {len cap q : Nat} {V : Nat → Value} (h : Came w A len cap V) (hq : q ≤ len) : Came w A q cap V :=
  ⟨Nat.le_trans hq h.le, h.max, fun h0 => by
    obtain ⟨b, off, h1, h2, h3⟩ := h.at_ (by omega)
    exact ⟨b, off, h1, h2, fun i hi => h3 i (by omega)⟩⟩
theorem Came.mid {w : World} {b off len cap q n : Nat} {V : Nat → Value} (h : Came w (some ⟨b, off, none⟩) len cap V) (hq : q + n ≤ len) (h0 : 0 < len) : Came w (some ⟨b, off + q, none⟩) n (cap - q) fun i => V (q + i) :=
  ⟨by have := h.le; omega, by have := h.max; omega, fun hn => by
    obtain ⟨b', off', h1, h2, h3⟩ := h.at_ h0
    injection h1 with h1
    injection h1 with e1 e2
    subst e1 e2
    exact ⟨b, off + q, rfl, h2, fun i hi => by rw [Nat.add_assoc]; exact h3 (q + i) (by omega)⟩⟩
theorem Came.belowC {w w' : World} {A : Option Addr} {len cap : Nat} {V : Nat → Value} (h : Came w A len cap V) (hb : Below w.heap.size w w') : Came w' A len cap V :=
  ⟨h.le, h.max, fun h0 => by
    obtain ⟨b, off, h1, h2, h3⟩ := h.at_ h0
    exact ⟨b, off, h1, Nat.lt_of_lt_of_le h2 hb.size, fun i hi => (dcell hb h2 _).trans (h3 i hi)⟩⟩
/-- What an append of a function leaves. -/
theorem s_grow {wr u2 W2 u3 : World} {Z j n : Nat} {fv code : Value} {vs xs : List Value} (hg : W2.grownBy u3 fv.ownBlock) (hb2 : Below u2.heap.size u2 W2) (hB3 : Below wr.heap.size wr u2) (hZ : Z ≤ wr.heap.size) (hfv : wr.ownsRow Z 44 1 fv j vs) (hcode : u2.ownsRow wr.heap.size 5 1 code n xs) :
    (∀ base v m ys, wr.ownsRow base 5 1 v m ys → u3.ownsRow base 5 1 v m ys) ∧ u3.ownsRow wr.heap.size 5 1 code n xs ∧ Below Z wr u3 := by
  have h2 : Below wr.heap.size wr W2 := hB3.trans (hb2.mono hB3.size)
  have hf2 := own_bel hfv h2
  refine ⟨fun base v m ys h => ?_, ?_, ?_⟩
  · have h' := own_bel h h2
    exact h'.kept hg (own_differ h' hf2 (by decide))
  · have h' := own_bel hcode hb2
    exact h'.kept hg (own_differ h' hf2 (by decide))
  · exact grown_below (h2.mono hZ) hf2 hg (Nat.le_refl _) (Nat.le_trans hZ h2.size)
/-- The functions that are made so far: behind Z; the image's box lies below. -/
structure SInv (wv : World) (Z M c nf : Nat) (cells : List CellD) (wr : World) : Prop where
  lt : M < Z
  zv : Z = wv.heap.size
  ex : ∃ (vs : List Value) (codes : List (List Int)) (fv : Value), codes.length = c ∧ vs.length = c ∧ wr.cell? ⟨M, 2, none⟩ = some fv ∧ wr.ownsRow Z 44 1 fv c vs ∧ (∀ (i : Nat) (v : Value) (b : List Int), vs[i]? = some v → codes[i]? = some b → wr.ownsRow Z 5 1 v b.length (u8s b)) ∧ (∀ (i : Nat) (b : List Int), codes[i]? = some b → CodeMade cells (if i = 0 then (nf : Int) else 0) b)
  fz : wr.frozen? ⟨M, 2, none⟩ = false
  c0 : wr.cell? ⟨M, 0, none⟩ = wv.cell? ⟨M, 0, none⟩
  c1 : wr.cell? ⟨M, 1, none⟩ = wv.cell? ⟨M, 1, none⟩
  bel : wv.grownBy wr (some M)
/-- All but the box is as it was. -/
theorem SInv.keep {wv : World} {Z M c nf : Nat} {cells : List CellD} {wr : World} (h : SInv wv Z M c nf cells wr) : Below M wv wr ∧ Z ≤ wr.heap.size ∧ ∀ b, b < Z → b ≠ M → wr.heap[b]? = wv.heap[b]? := by
  have hlt := h.lt
  have hz := h.zv
  refine ⟨⟨h.bel.os, h.bel.tape, h.bel.output, h.bel.size, fun b hb => h.bel.block b (by omega) (fun e => by injection e with e; omega)⟩, by rw [hz]; exact h.bel.size, fun b hb hne => h.bel.block b (by omega) (fun e => by injection e with e; omega)⟩
theorem s_next {wv wr u3 : World} {Z M c nf n : Nat} {cells : List CellD} {fv code : Value} {vs : List Value} {codes : List (List Int)} {b : List Int} {vB : Option Addr} {vd : Nat} (hi : SInv wv Z M c nf cells wr) (hcl : codes.length = c) (hvs : vs.length = c) (hn : n = b.length) (hcm : CodeMade cells (if c = 0 then (nf : Int) else 0) b) (f2 : wr.cell? ⟨M, 2, none⟩ = some fv)
    (heach : ∀ (i : Nat) (v : Value) (b : List Int), vs[i]? = some v → codes[i]? = some b → wr.ownsRow Z 5 1 v b.length (u8s b)) (hmade : ∀ (i : Nat) (b : List Int), codes[i]? = some b → CodeMade cells (if i = 0 then (nf : Int) else 0) b)
    (h : (∀ base v m ys, wr.ownsRow base 5 1 v m ys → u3.ownsRow base 5 1 v m ys) ∧ u3.ownsRow wr.heap.size 5 1 code n (u8s b) ∧ Below Z wr u3) (ho : u3.ownsRow Z 44 1 (.slice vB (c + 1) vd) (c + 1) (vs ++ [code])) :
    SInv wv Z M (c + 1) nf cells (u3.setCell ⟨M, 2, none⟩ (.slice vB (c + 1) vd)) := by
  obtain ⟨h2, h3, h4⟩ := h
  have hlt := hi.lt
  obtain ⟨k1, k2, k3⟩ := hi.keep
  have ne : ∀ v : Value, (∀ k, v.ownBlock = some k → Z ≤ k) → v.ownBlock ≠ some M := fun v hv e => by have := hv _ e; omega
  have q2 := (dcell h4 hlt 2).trans f2
  refine ⟨hlt, hi.zv, ⟨vs ++ [code], codes ++ [b], .slice vB (c + 1) vd, by simp [hcl], by simp [hvs], cell_set_same q2, own_setFar ho (ne _ fun k hk => (ho.lt k hk).1) _, fun i v bb hv hb => ?_, fun i bb hb => ?_⟩, froz_set.trans ((dfroz h4 hlt 2).trans hi.fz), (cell_set_ne (.inr (by decide))).trans ((dcell h4 hlt 0).trans hi.c0), (cell_set_ne (.inr (by decide))).trans ((dcell h4 hlt 1).trans hi.c1), ?_⟩
  · rcases Nat.lt_or_ge i vs.length with hi' | hi'
    · rw [List.getElem?_append_left hi'] at hv
      rw [List.getElem?_append_left (by omega)] at hb
      have ho' := h2 _ _ _ _ (heach i v bb hv hb)
      exact own_setFar ho' (ne _ fun k hk => (ho'.lt k hk).1) _
    · have hie : i = vs.length := by
        have := (List.getElem?_eq_some_iff.1 hv).1
        simp at this
        omega
      subst hie
      rw [List.getElem?_append_right (Nat.le_refl _)] at hv
      rw [List.getElem?_append_right (by omega)] at hb
      simp at hv
      rw [show vs.length - codes.length = 0 by omega] at hb
      simp at hb
      subst hv hb
      have ho' := own_mono8 h3 k2
      rw [hn] at ho'
      exact own_setFar ho' (ne _ fun k hk => (ho'.lt k hk).1) _
  · rcases Nat.lt_or_ge i codes.length with hi' | hi'
    · rw [List.getElem?_append_left hi'] at hb
      exact hmade i bb hb
    · have hie : i = codes.length := by
        have := (List.getElem?_eq_some_iff.1 hb).1
        simp at this
        omega
      subst hie
      rw [List.getElem?_append_right (Nat.le_refl _)] at hb
      simp at hb
      subst hb
      rw [hcl]
      exact hcm
  · have hz := hi.zv
    exact ⟨h4.os.trans hi.bel.os, h4.tape.trans hi.bel.tape, h4.output.trans hi.bel.output, by have := h4.size; have := hi.bel.size; simp [World.setCell]; omega, fun k hk hne => (Below.heap_setCell _ _ _ k (fun e => hne (by rw [e]))).trans ((h4.block k (by omega)).trans (hi.bel.block k hk hne))⟩
theorem own_keepW {w W : World} {M Z base : Nat} {e : TypeId} {size n : Nat} {v : Value} {xs : List Value} (h : w.ownsRow base e size v n xs) (hM : M < base) (hZ : Z = w.heap.size) (hk : ∀ b, M < b → b < Z → W.heap[b]? = w.heap[b]?) : W.ownsRow base e size v n xs :=
  ⟨h.1, h.2.elim .inl fun ⟨g, cap, cur, h1, h2, h3, h4⟩ => .inr ⟨g, cap, cur, h1, h2, (hk g (by omega) (by rw [hZ]; exact heap_some_lt h3)).trans h3, h4⟩⟩
theorem came_keep {w W : World} {A : Option Addr} {len cap : Nat} {V : Nat → Value} (h : Came w A len cap V) (hk : ∀ b, b < w.heap.size → W.heap[b]? = w.heap[b]?) (hs : w.heap.size ≤ W.heap.size) : Came W A len cap V :=
  ⟨h.le, h.max, fun h0 => by
    obtain ⟨b, off, h1, h2, h3⟩ := h.at_ h0
    exact ⟨b, off, h1, by omega, fun i hi => (World.cell?_of_block (a := ⟨b, off + i, none⟩) (hk b h2)).trans (h3 i hi)⟩⟩
theorem Row.keepR {w W : World} {B size n R : Nat} {A : Option Addr} {xs : List Value} (h : Row w B size A n xs) (hx : ∀ x ∈ xs, x ≠ .slice none 0 0) (hR : ∀ (o : Nat) (v : Value), w.cell? ⟨R, o, none⟩ = some v → v = .slice none 0 0) (hk : ∀ b, b < B → b ≠ R → W.heap[b]? = w.heap[b]?) : Row W B size A n xs :=
  ⟨h.1, fun h0 => by
    obtain ⟨b, off, h1, h2, h3⟩ := h.2 h0
    refine ⟨b, off, h1, h2, fun j u hu => ?_⟩
    have hc := h3 j u hu
    by_cases hb : b = R
    · subst hb
      exact absurd (hR _ _ hc) (hx u (List.mem_of_getElem? hu))
    · exact (World.cell?_of_block (a := ⟨b, off + j, none⟩) (hk b h2 hb)).trans hc⟩
theorem ints_ne {l : List Int} : ∀ x ∈ l.map (Value.int .i64), x ≠ .slice none 0 0 := by
  intro x hx
  obtain ⟨y, _, rfl⟩ := List.mem_map.1 hx
  intro h
  cases h
theorem Syms.keepR {w W : World} {B n R : Nat} {A : Option Addr} {l : List SymD} (h : Syms w B A n l) (hR : ∀ (o : Nat) (v : Value), w.cell? ⟨R, o, none⟩ = some v → v = .slice none 0 0) (hk : ∀ b, b < B → b ≠ R → W.heap[b]? = w.heap[b]?) : Syms W B A n l :=
  ⟨h.len, fun hn => by
    obtain ⟨b, off, e, hlt, hs⟩ := h.at_ hn
    have hbR : b ≠ R := by
      rintro rfl
      obtain ⟨s, hs0⟩ : ∃ s, l[0]? = some s := ⟨_, List.getElem?_eq_getElem (by have := h.len; omega)⟩
      obtain ⟨Fa, Fc, Ia, Ic, c0, _⟩ := hs 0 s hs0
      have := hR _ _ c0
      cases this
    have hcell : ∀ o v, w.cell? ⟨b, o, none⟩ = some v → W.cell? ⟨b, o, none⟩ = some v := fun o v hv => (World.cell?_of_block (a := ⟨b, o, none⟩) (hk b hlt hbR)).trans hv
    refine ⟨b, off, e, hlt, fun i s hi => ?_⟩
    obtain ⟨Fa, Fc, Ia, Ic, c0, c1, c2, c3, c4, c5, c6, h1, h2, h3, h4, h5⟩ := hs i s hi
    refine ⟨Fa, Fc, Ia, Ic, hcell _ _ c0, hcell _ _ c1, hcell _ _ c2, hcell _ _ c3, hcell _ _ c4, hcell _ _ c5, hcell _ _ c6, h1.keepR ?_ hR hk, h2, h3, h4.keepR ?_ hR hk, h5⟩
    · intro x hx
      simp only [fieldRow, List.mem_flatMap] at hx
      obtain ⟨f, _, hx⟩ := hx
      simp [fieldCells] at hx
      rcases hx with rfl | rfl <;> (intro h; cases h)
    · exact fun x hx => ints_ne x hx, h.ok⟩
theorem one_slice (w : World) (v : Value) (t : TypeId) : ∀ (j : Nat) (u : Value), ([v] : List Value)[j]? = some u → (w.alloc (.cells #[v] t)).cell? ((⟨w.heap.size, 0, none⟩ : Addr).add j) = some u := by
  intro j u hu
  rw [Addr.add_lit, World.cell?_alloc_new]
  have hj : j < 1 := by have := (List.getElem?_eq_some_iff.1 hu).1; simpa using this
  rcases (show j = 0 by omega) with rfl
  simpa using hu
theorem one_one (A : Option Addr) (n c : Nat) : ∀ u ∈ ([.slice A n c] : List Value), u.oneCell' = true := by
  intro u hu
  simp at hu
  subst hu
  rfl
theorem symsP_kinds (longer : Bool) : KindsOk (cellsOf (symsP longer)) := by
  have h : (cellsOf (symsP longer)).all (fun x => decide (1 ≤ x.kind) && decide (x.kind ≤ 6)) = true := by cases longer <;> kernel_rfl
  intro x hx
  have := List.all_eq_true.1 h x hx
  simpa using this
theorem symsP_cells (longer : Bool) : 0 < (cellsOf (symsP longer)).length ∧ (cellsOf (symsP longer)).length ≤ 200 := by
  cases longer
  · have h : (cellsOf (symsP false)).length = 19 := by kernel_rfl
    omega
  · have h : (cellsOf (symsP true)).length = 21 := by kernel_rfl
    omega
/-- What Sound leaves. -/
def SoundBack (w : World) (longer : Bool) (e : Ending) (w' : World) : Prop :=
  (∃ (sb cb f fc nf : Nat) (codes : List (List Int)) (vs : List Value), e = .returned (.agg #[.slice (some ⟨sb, 0, none⟩) 7 7, .slice (some ⟨cb, 0, none⟩) 2 2, .slice (some ⟨f, 0, none⟩) codes.length fc]) ∧ Syms w' w'.heap.size (some ⟨sb, 0, none⟩) 7 (symsP longer) ∧ Row w' w'.heap.size 1 (some ⟨cb, 0, none⟩) 2 (([7, -1] : List Int).map (Value.int .i64)) ∧ FuncsAt w' f codes vs ∧ codes.length ≤ fc ∧ fc ≤ 9223372036854775807 ∧ codes.length = nf + 1 ∧ nf ≤ 2 ∧ ∀ (i : Nat) (b : List Int), codes[i]? = some b → CodeMade (cellsOf (symsP longer)) (if i = 0 then (nf : Int) else 0) b) ∧ Below w.heap.size w w'
set_option maxHeartbeats 8000000 in
set_option maxRecDepth 100000 in
theorem sound_any (longer : Bool) (NA : Option Addr) (nl nc : Nat) (z : Nat → Int) (w : World) (hns : Came w NA nl nc fun j => .int .i64 (z j)) (hz : ∀ j, j < nl → I64 (z j)) (hnl : nl ≤ 80) :
    Calls Tryd.prog 19 #[.slice NA nl nc, .bool longer] w (SoundBack w longer) := by
  obtain ⟨s0, si, sz0, sz1, sz2⟩ := info_parts bytesInfoT
  have t27 := bytessTyT
  have SY := Lib.hid (fun u => syms_any longer u)
  obtain ⟨nf, hnf⟩ : ∃ nf, nl % 3 = nf := ⟨_, rfl⟩
  obtain ⟨n3, hn3⟩ : ∃ n3, nl / 3 = n3 := ⟨_, rfl⟩
  obtain ⟨q, hq⟩ : ∃ q, nl - n3 = q := ⟨_, rfl⟩
  have hnf3 : nf < 3 := by omega
  have hnfl : nf ≤ nl := by omega
  have hq3 : q + n3 = nl := by omega
  have W3 := Lib.hid (fun W => show Calls Tryd.prog 35 #[.int .i64 nl, .int .i64 3] W (fun e w' => e = .returned (.int .i64 nf) ∧ W = w') from by have h := within12_any nl 3 (by decide) (by decide) W; rw [show (nl : Int) % 3 = nf by omega] at h; exact h)
  have hd3 : (nl : Int).tdiv 3 = n3 := by rw [Int.tdiv_eq_ediv_of_nonneg (by omega)]; omega
  have hw3 : IntKind.i64.wrap (n3 : Int) = n3 := IntWalk.i64_in _ (by omega)
  have hqI : (nl : Int) - n3 = q := by omega
  have hqw : IntKind.i64.wrap (q : Int) = q := IntWalk.i64_in _ (by omega)
  have hnlI : (nl : Int) ≤ 80 := by omega
  have hqnl : (q : Int) ≤ nl := by omega
  have hncle := hns.le
  have hncm := hns.max
  have hqnc : (q : Int) ≤ nc := by omega
  have HNS := Lib.hid hns
  clear hns hnf hn3 hq
  go_enter Tryd.func19, Tryd.ntmps19
  go_wp2_with fail
  refine (SY.out _).mono ?_
  rintro e w1 ⟨sb, rfl, hsy, hb1⟩
  have hz1 := hb1.size
  simp at hz1
  have HB1 := Lib.hid (show Below w.heap.size w w1 from ((Below.refl _ w).alloc (Nat.le_refl _) _).trans (hb1.mono (by simp)))
  have q0 : w1.cell? ⟨w.heap.size, 0, none⟩ = some (.slice none 0 0) := (dcell hb1 (by simp) 0).trans (by go_simp)
  have q1 : w1.cell? ⟨w.heap.size, 1, none⟩ = some (.slice none 0 0) := (dcell hb1 (by simp) 1).trans (by go_simp)
  have q2 : w1.cell? ⟨w.heap.size, 2, none⟩ = some (.slice none 0 0) := (dcell hb1 (by simp) 2).trans (by go_simp)
  have g0 : w1.frozen? ⟨w.heap.size, 0, none⟩ = false := (dfroz hb1 (by simp) 0).trans (by go_simp)
  have g1 : w1.frozen? ⟨w.heap.size, 1, none⟩ = false := (dfroz hb1 (by simp) 1).trans (by go_simp)
  have g2 : w1.frozen? ⟨w.heap.size, 2, none⟩ = false := (dfroz hb1 (by simp) 2).trans (by go_simp)
  have HRC := Lib.hid (show ∀ (o : Nat) (v : Value), w1.cell? ⟨w.heap.size, o, none⟩ = some v → v = .slice none 0 0 from fun o v hv => by
    have hh := (hb1.block w.heap.size (by simp)).trans (heap_new w (.cells #[.slice none 0 0, .slice none 0 0, .slice none 0 0] 29))
    rw [cell_of_heap hh] at hv
    rcases o with _ | _ | _ | o <;> simp at hv <;> exact hv.symm)
  have HSY := Lib.hid hsy
  clear hsy hb1
  go_wp2_with fail
  obtain ⟨wm, hwm⟩ : ∃ x : World, x = (w1.alloc (.cells #[.int .i64 7, .int .i64 (-1)] 3)).alloc (.cells #[.slice (some ⟨sb, 0, none⟩) 7 7, .slice (some ⟨w1.heap.size, 0, none⟩) 2 2, .slice none 0 0] 29) := ⟨_, rfl⟩
  have hzm : wm.heap.size = w1.heap.size + 2 := by rw [hwm]; simp
  have m0 : wm.cell? ⟨w1.heap.size + 1, 0, none⟩ = some (.slice (some ⟨sb, 0, none⟩) 7 7) := by rw [hwm]; go_simp
  have m1 : wm.cell? ⟨w1.heap.size + 1, 1, none⟩ = some (.slice (some ⟨w1.heap.size, 0, none⟩) 2 2) := by rw [hwm]; go_simp
  have m2 : wm.cell? ⟨w1.heap.size + 1, 2, none⟩ = some (.slice none 0 0) := by rw [hwm]; go_simp
  have m3 : wm.frozen? ⟨w1.heap.size + 1, 2, none⟩ = false := by rw [hwm]; go_simp
  have HKO := Lib.hid (show Row wm (w1.heap.size + 1) 1 (some ⟨w1.heap.size, 0, none⟩) 2 (([7, -1] : List Int).map (Value.int .i64)) from by
    rw [hwm]
    refine ⟨rfl, fun _ => ⟨_, 0, rfl, by omega, fun j u hu => ?_⟩⟩
    have hj2 : j < 2 := by have := (List.getElem?_eq_some_iff.1 hu).1; simpa using this
    rcases (show j = 0 ∨ j = 1 by omega) with rfl | rfl <;> (simp at hu; subst hu; go_simp))
  have HBM := Lib.hid (show Below w1.heap.size w1 wm from by rw [hwm]; exact ((Below.refl _ w1).alloc (Nat.le_refl _) _).alloc (by simp) _)
  rw [← hwm]
  clear hwm
  refine (rcells_any (some ⟨sb, 0, none⟩) 7 7 (symsP longer) wm ((HSY.out.below HBM.out).moreS (by omega)) (by decide) (by decide) (by decide) (symsP_size longer)).mono ?_
  rintro e wv ⟨cv, rfl, hcv, hbv⟩
  obtain ⟨CA, cc, rfl, hc1, hc2⟩ := own_slice hcv
  unfold maxLen at hc2
  have HCR := Lib.hid (Row.of_own hcv)
  have hzv := hbv.size
  have HBV := Lib.hid hbv
  have HCO := Lib.hid hcv
  clear hcv hbv
  go_wp2_with (go_at_call 35; (with_reducible refine (W3.out _).mono ?_); rintro e _ ⟨rfl, rfl⟩)
  obtain ⟨hcl0, hcl1⟩ := symsP_cells longer
  have hMZ : w1.heap.size + 1 < wv.heap.size := by omega
  have HCV := Lib.hid (fun (W : World) (hk : ∀ b, w1.heap.size + 1 < b → b < wv.heap.size → W.heap[b]? = wv.heap[b]?) => Row.of_own (own_keepW HCO.out (by omega) rfl hk))
  have HNW := Lib.hid (fun (W : World) (hk : ∀ b, b < wv.heap.size → b ≠ w1.heap.size + 1 → W.heap[b]? = wv.heap[b]?) (hs : wv.heap.size ≤ W.heap.size) => came_keep (W := W) HNS.out (fun b hb => (hk b (by omega) (by omega)).trans ((HBV.out.block b (by omega)).trans ((HBM.out.block b (by omega)).trans (HB1.out.block b hb)))) (by omega))
  have v2 : wv.cell? ⟨w1.heap.size + 1, 2, none⟩ = some (.slice none 0 0) := (dcell HBV.out (by omega) 2).trans m2
  have v3 : wv.frozen? ⟨w1.heap.size + 1, 2, none⟩ = false := (dfroz HBV.out (by omega) 2).trans m3
  have v0 := (dcell HBV.out (show w1.heap.size + 1 < wm.heap.size by omega) 0).trans m0
  have v1 := (dcell HBV.out (show w1.heap.size + 1 < wm.heap.size by omega) 1).trans m1
  have HSI := Lib.hid (show SInv wv wv.heap.size (w1.heap.size + 1) 0 nf (cellsOf (symsP longer)) wv from ⟨hMZ, rfl, ⟨[], [], .slice none 0 0, rfl, rfl, v2, World.ownsRow_nil _ _ _ _, fun i v b h => by simp at h, fun i b h => by simp at h⟩, v3, rfl, rfl, ⟨rfl, rfl, rfl, Nat.le_refl _, fun _ _ _ => rfl⟩⟩)
  have HNIL := Lib.hid (World.ownsRow_nil wv wv.heap.size 44 1)
  have hMw := hMZ
  have hZw : wv.heap.size ≤ wv.heap.size := Nat.le_refl _
  have hMf : ¬ w1.heap.size + 1 = wv.heap.size := by omega
  have hMg : ¬ wv.heap.size = w1.heap.size + 1 := by omega
  have CB := Lib.hid (fun u (hu : Below wv.heap.size wv u) => code12_any CA cc (cellsOf (symsP longer)) ⟨hcl0, hcl1⟩ (symsP_kinds longer) hc1 hc2 NA q nc z u (HCV.out u (fun b h1 h2 => hu.block b h2)) ((HNW.out u (fun b h1 h2 => hu.block b h1) hu.size).front (by omega)) (fun j hj => hz j (by omega)) (by omega) nf (by omega))
  go_cut [8] (fun c8 wx => c8 = .int .i64 nf ∧ SInv wv wv.heap.size (w1.heap.size + 1) 1 nf (cellsOf (symsP longer)) wx)
  case first =>
    go_region_law (first
      | (go_simp; go_at_call 36; (with_reducible refine (CB.out _ (by repeat (first | (with_reducible exact Below.refl _ _) | (with_reducible refine Below.drew ?_) | (with_reducible refine Below.alloc ?_ (by first | omega | (simp; done) | (simp; omega)) _)))).mono ?_); rintro e w5 ⟨⟨v5, sp5, bs5, st5, rfl, hmd, hbl5, ho5⟩, hb5⟩; obtain ⟨vA, vc, rfl, _, _⟩ := own_slice ho5; have HO5 := Lib.hid (own_mono8 ho5 (show wv.heap.size ≤ _ from Nat.le_refl _)); have HMD := Lib.hid (show CodeMade (cellsOf (symsP longer)) (nf : Int) (bs5 ++ [0]) from ⟨sp5, bs5, st5, hmd, hbl5, rfl⟩); have HB5 := Lib.hid (show Below wv.heap.size wv w5 from Below.trans (by repeat (first | (with_reducible exact Below.refl _ _) | (with_reducible refine Below.drew ?_) | (with_reducible refine Below.alloc ?_ (by first | omega | (simp; done) | (simp; omega)) _))) (hb5.mono (show wv.heap.size ≤ _ from Nat.le_refl _))); have k2 := (dcell HB5.out hMw 2).trans v2; have k3 := (dfroz HB5.out hMw 2).trans v3; have z5 := HB5.out.size; have hM4 : w1.heap.size + 1 < w5.heap.size := Nat.lt_of_lt_of_le hMw z5; have hM5 : ¬ w1.heap.size + 1 = w5.heap.size := Nat.ne_of_lt hM4; have hM6 : ¬ w5.heap.size = w1.heap.size + 1 := fun e => hM5 e.symm; clear ho5 hb5 hmd)
      | (refine step_append_ownS rfl _ _ 27 rfl wv.heap.size 44 s0 _ 1 24 t27 si sz0 sz1 sz2 rfl (by decide) (.slice none 0 0) 0 ([]) rfl (by repeat (first | (with_reducible exact own_bel HNIL.out HB5.out) | (with_reducible refine World.ownsRow.alloc ?_ _) | (with_reducible refine own_dr ?_))) ⟨_, 0, none⟩ 1 1 [.slice vA (bs5.length + 1) vc] rfl rfl (by first | exact one_slice _ _ _ | exact one_cell (by go_simp)) (one_one _ _ _) (by unfold maxLen; omega) (by omega) (by first | omega | (simp; done) | (simp; omega)) ?_; intro v7 w7 hown hgrow hnil; obtain ⟨vB, vd, rfl, hv3, hv4⟩ := own_slice hown; have HO7 := Lib.hid hown; have HG := Lib.hid (s_grow hgrow (by repeat (first | (with_reducible exact Below.refl _ _) | (with_reducible refine Below.drew ?_) | (with_reducible refine Below.alloc ?_ (by first | omega | (simp; done) | (simp; omega)) _))) HB5.out hZw HNIL.out HO5.out); have n2 := (dcell HG.out.2.2 hMZ 2).trans v2; have n3' := (dfroz HG.out.2.2 hMZ 2).trans v3; clear hown hgrow hnil))
    all_goals (try go_wp2_with fail)
    all_goals go_meet
    all_goals exact ⟨rfl, s_next (c := 0) (codes := []) (vs := []) HSI.out rfl rfl (by simp) (by rw [if_pos rfl]; exact HMD.out) v2 (fun i v b h => by simp at h) (fun i b h => by simp at h) HG.out HO7.out⟩
  case rest =>
    obtain ⟨rfl, hs1⟩ := hcut
    have HS1 := Lib.hid hs1
    clear hs1 hMw hZw hMf hMg v2 v3 CB HNIL HSI m0 m1 m2 m3
    go_wp2_with fail
    go_loopw [9] (fun k wr => ∃ j : Nat, k = .int .i64 j ∧ j ≤ nf ∧ SInv wv wv.heap.size (w1.heap.size + 1) (j + 1) nf (cellsOf (symsP longer)) wr) (fun k _ => nf - (intOf k).toNat)
    case atStart => exact ⟨0, rfl, Nat.zero_le _, HS1.out⟩
    case round =>
      obtain ⟨j, rfl, hj, hsi⟩ := hrel
      obtain ⟨kp1, kp2, kp3⟩ := hsi.keep
      obtain ⟨vs, codes, fv, hcl, hvs, v2, hrow, heach, hmade⟩ := hsi.ex
      have v3 := hsi.fz
      have HSI := Lib.hid hsi
      have HROW := Lib.hid hrow
      have HEACH := Lib.hid heach
      have HMADE := Lib.hid hmade
      have hMw : w1.heap.size + 1 < wr.heap.size := by omega
      by_cases hjn : j < nf
      · have hjnI : (j : Int) < nf := by omega
        obtain ⟨nb, no, hNA, _, _⟩ := HNS.out.at_ (by omega)
        subst hNA
        obtain ⟨h, hh⟩ : ∃ h, n3 / (j + 1) = h := ⟨_, rfl⟩
        have hj2 : j = 0 ∨ j = 1 := by omega
        have hhn : h ≤ n3 := by rw [← hh]; exact Nat.div_le_self _ _
        have hdv : (n3 : Int).tdiv ((j : Int) + 1) = h := by
          rw [Int.tdiv_eq_ediv_of_nonneg (by omega)]
          rcases hj2 with rfl | rfl <;> simp at hh ⊢ <;> omega
        have hwh : IntKind.i64.wrap (h : Int) = h := IntWalk.i64_in _ (by omega)
        have hj0 : ¬ ((j : Int) + 1 = 0) := by omega
        have hj00 : ((j : Int) + 1 == 0) = false := by rw [beq_eq_false_iff_ne]; exact hj0
        have hjw : IntKind.i64.wrap ((j : Int) + 1) = (j : Int) + 1 := IntWalk.i64_in _ (by omega)
        have hq0 : (0 : Int) ≤ q := by omega
        have hh0 : (0 : Int) ≤ h := by omega
        have hZw : wv.heap.size ≤ wr.heap.size := kp2
        have hMf : ¬ w1.heap.size + 1 = wr.heap.size := by omega
        have hMg : ¬ wr.heap.size = w1.heap.size + 1 := by omega
        have hcp : ((nc - q : Nat) : Int) = (nc : Int) - q := by omega
        have hhc : (h : Int) ≤ ((nc - q : Nat) : Int) := by omega
        have hhc' : h ≤ nc - q := by omega
        have hhc2 : (h : Int) ≤ (nc : Int) - q := by omega
        have CB0 := fun (X : Option Addr) (hX : Came wr X h (nc - q) (fun i => .int .i64 (z (q + i)))) u (hu : Below wr.heap.size wr u) => show Calls Tryd.prog 36 #[.slice CA (cellsOf (symsP longer)).length cc, .slice X h (nc - q), .int .i64 0] u (CodeBack u (cellsOf (symsP longer)) 0) from code12_any CA cc (cellsOf (symsP longer)) ⟨hcl0, hcl1⟩ (symsP_kinds longer) hc1 hc2 X h (nc - q) (fun i => z (q + i)) u (HCV.out u (fun b h1 h2 => (hu.block b (by omega)).trans (kp3 b h2 (by omega)))) (hX.belowC hu) (fun i hi => hz (q + i) (by omega)) (by omega) 0 (by decide)
        have hXs : Came wr (some ⟨nb, no + q, none⟩) h (nc - q) (fun i => .int .i64 (z (q + i))) := (((HNW.out wr kp3 kp2).mid (q := q) (n := n3) (by omega) (by omega))).front hhn
        have hX0 : nc = q → Came wr (some ⟨nb, no, none⟩) h (nc - q) (fun i => .int .i64 (z (q + i))) := fun e => ⟨by omega, by omega, fun h0 => by omega⟩
        have HX0 := Lib.hid hX0
        have HXS := Lib.hid hXs
        have HCB0 := Lib.hid CB0
        clear hsi kp1 kp3 hrow heach hmade hX0 hXs CB0
        by_cases hcq : nc = q
        · subst hcq
          obtain rfl : h = 0 := by omega
          have hnq : nc - nc = 0 := by omega
          have hw0 : IntKind.i64.wrap 0 = 0 := rfl
          have hw00 : IntKind.i64.wrap ((0 : Nat) : Int) = 0 := rfl
          have CB1 := HCB0.out _ (HX0.out rfl)
          rw [hnq] at CB1
          have CB := Lib.hid CB1
          clear CB1
          go_wp2_with fail
          go_region_law (first
            | (go_simp; go_at_call 36; (with_reducible refine (CB.out _ (by repeat (first | (with_reducible exact Below.refl _ _) | (with_reducible refine Below.drew ?_) | (with_reducible refine Below.alloc ?_ (by first | omega | (simp; done) | (simp; omega)) _)))).mono ?_); rintro e w5 ⟨⟨v5, sp5, bs5, st5, rfl, hmd, hbl5, ho5⟩, hb5⟩; obtain ⟨vA, vc, rfl, _, _⟩ := own_slice ho5; have HO5 := Lib.hid (own_mono8 ho5 (show wr.heap.size ≤ _ from Nat.le_refl _)); have HMD := Lib.hid (show CodeMade (cellsOf (symsP longer)) (0 : Int) (bs5 ++ [0]) from ⟨sp5, bs5, st5, hmd, hbl5, rfl⟩); have HB5 := Lib.hid (show Below wr.heap.size wr w5 from Below.trans (by repeat (first | (with_reducible exact Below.refl _ _) | (with_reducible refine Below.drew ?_) | (with_reducible refine Below.alloc ?_ (by first | omega | (simp; done) | (simp; omega)) _))) (hb5.mono (show wr.heap.size ≤ _ from Nat.le_refl _))); have k2 := (dcell HB5.out hMw 2).trans v2; have k3 := (dfroz HB5.out hMw 2).trans v3; have z5 := HB5.out.size; have hM4 : w1.heap.size + 1 < w5.heap.size := Nat.lt_of_lt_of_le hMw z5; have hM5 : ¬ w1.heap.size + 1 = w5.heap.size := Nat.ne_of_lt hM4; have hM6 : ¬ w5.heap.size = w1.heap.size + 1 := fun e => hM5 e.symm; clear ho5 hb5 hmd)
            | (refine step_append_ownS rfl _ _ 27 rfl wv.heap.size 44 s0 _ 1 24 t27 si sz0 sz1 sz2 rfl (by decide) (fv) (j + 1) (vs) rfl (by repeat (first | (with_reducible exact own_bel HROW.out HB5.out) | (with_reducible refine World.ownsRow.alloc ?_ _) | (with_reducible refine own_dr ?_))) ⟨_, 0, none⟩ 1 1 [.slice vA (bs5.length + 1) vc] rfl rfl (by first | exact one_slice _ _ _ | exact one_cell (by go_simp)) (one_one _ _ _) (by unfold maxLen; omega) (by omega) (by first | omega | (simp; done) | (simp; omega)) ?_; intro v7 w7 hown hgrow hnil; obtain ⟨vB, vd, rfl, hv3, hv4⟩ := own_slice hown; have HO7 := Lib.hid hown; have HG := Lib.hid (s_grow hgrow (by repeat (first | (with_reducible exact Below.refl _ _) | (with_reducible refine Below.drew ?_) | (with_reducible refine Below.alloc ?_ (by first | omega | (simp; done) | (simp; omega)) _))) HB5.out hZw HROW.out HO5.out); have n2 := (dcell HG.out.2.2 hMZ 2).trans v2; have n3' := (dfroz HG.out.2.2 hMZ 2).trans v3; clear hown hgrow hnil))
          all_goals (have HN := Lib.hid (s_next (c := j + 1) HSI.out hcl hvs (by simp) (by rw [if_neg (by omega)]; exact HMD.out) v2 HEACH.out HMADE.out HG.out HO7.out); clear HG HO7 HO5 HB5 HMD k2 k3 n2 n3' v2 v3 CB HCB0 HX0 HXS HROW HEACH HMADE HSI; go_wp2_with fail; go_roundw; (case rel => exact ⟨j + 1, rfl, by omega, HN.out⟩); (case measure => (simp [intOf]; omega)))
        · have hcqI : ¬ (nc : Int) = q := by omega
          have CB := Lib.hid (HCB0.out _ HXS.out)
          go_wp2_with fail
          go_region_law (first
            | (go_simp; go_at_call 36; (with_reducible refine (CB.out _ (by repeat (first | (with_reducible exact Below.refl _ _) | (with_reducible refine Below.drew ?_) | (with_reducible refine Below.alloc ?_ (by first | omega | (simp; done) | (simp; omega)) _)))).mono ?_); rintro e w5 ⟨⟨v5, sp5, bs5, st5, rfl, hmd, hbl5, ho5⟩, hb5⟩; obtain ⟨vA, vc, rfl, _, _⟩ := own_slice ho5; have HO5 := Lib.hid (own_mono8 ho5 (show wr.heap.size ≤ _ from Nat.le_refl _)); have HMD := Lib.hid (show CodeMade (cellsOf (symsP longer)) (0 : Int) (bs5 ++ [0]) from ⟨sp5, bs5, st5, hmd, hbl5, rfl⟩); have HB5 := Lib.hid (show Below wr.heap.size wr w5 from Below.trans (by repeat (first | (with_reducible exact Below.refl _ _) | (with_reducible refine Below.drew ?_) | (with_reducible refine Below.alloc ?_ (by first | omega | (simp; done) | (simp; omega)) _))) (hb5.mono (show wr.heap.size ≤ _ from Nat.le_refl _))); have k2 := (dcell HB5.out hMw 2).trans v2; have k3 := (dfroz HB5.out hMw 2).trans v3; have z5 := HB5.out.size; have hM4 : w1.heap.size + 1 < w5.heap.size := Nat.lt_of_lt_of_le hMw z5; have hM5 : ¬ w1.heap.size + 1 = w5.heap.size := Nat.ne_of_lt hM4; have hM6 : ¬ w5.heap.size = w1.heap.size + 1 := fun e => hM5 e.symm; clear ho5 hb5 hmd)
            | (refine step_append_ownS rfl _ _ 27 rfl wv.heap.size 44 s0 _ 1 24 t27 si sz0 sz1 sz2 rfl (by decide) (fv) (j + 1) (vs) rfl (by repeat (first | (with_reducible exact own_bel HROW.out HB5.out) | (with_reducible refine World.ownsRow.alloc ?_ _) | (with_reducible refine own_dr ?_))) ⟨_, 0, none⟩ 1 1 [.slice vA (bs5.length + 1) vc] rfl rfl (by first | exact one_slice _ _ _ | exact one_cell (by go_simp)) (one_one _ _ _) (by unfold maxLen; omega) (by omega) (by first | omega | (simp; done) | (simp; omega)) ?_; intro v7 w7 hown hgrow hnil; obtain ⟨vB, vd, rfl, hv3, hv4⟩ := own_slice hown; have HO7 := Lib.hid hown; have HG := Lib.hid (s_grow hgrow (by repeat (first | (with_reducible exact Below.refl _ _) | (with_reducible refine Below.drew ?_) | (with_reducible refine Below.alloc ?_ (by first | omega | (simp; done) | (simp; omega)) _))) HB5.out hZw HROW.out HO5.out); have n2 := (dcell HG.out.2.2 hMZ 2).trans v2; have n3' := (dfroz HG.out.2.2 hMZ 2).trans v3; clear hown hgrow hnil))
          all_goals (have HN := Lib.hid (s_next (c := j + 1) HSI.out hcl hvs (by simp) (by rw [if_neg (by omega)]; exact HMD.out) v2 HEACH.out HMADE.out HG.out HO7.out); clear HG HO7 HO5 HB5 HMD k2 k3 n2 n3' v2 v3 CB HCB0 HX0 HXS HROW HEACH HMADE HSI; go_wp2_with fail; go_roundw; (case rel => exact ⟨j + 1, rfl, by omega, HN.out⟩); (case measure => (simp [intOf]; omega)))
      · have hje : j = nf := by omega
        have hnl' : ¬ (j : Int) < nf := by omega
        subst hje
        have hR1 : w.heap.size < wr.heap.size := by omega
        have hRM : ¬ w.heap.size = w1.heap.size + 1 := by omega
        have hMR : ¬ w1.heap.size + 1 = w.heap.size := by omega
        have kR := (kp3 w.heap.size (by omega) (by omega)).trans ((HBV.out.block w.heap.size (by omega)).trans (HBM.out.block w.heap.size (by omega)))
        have r0 := (World.cell?_of_block (a := ⟨w.heap.size, 0, none⟩) kR).trans q0
        have r1 := (World.cell?_of_block (a := ⟨w.heap.size, 1, none⟩) kR).trans q1
        have r2 := (World.cell?_of_block (a := ⟨w.heap.size, 2, none⟩) kR).trans q2
        have s0' := (World.frozen?_of_block (a := ⟨w.heap.size, 0, none⟩) kR).trans g0
        have s1' := (World.frozen?_of_block (a := ⟨w.heap.size, 1, none⟩) kR).trans g1
        have s2' := (World.frozen?_of_block (a := ⟨w.heap.size, 2, none⟩) kR).trans g2
        have c0 := hsi.c0.trans v0
        have c1 := hsi.c1.trans v1
        obtain ⟨f, fc, rfl, hf1, hf2⟩ := hrow.form (by omega)
        obtain ⟨_, fc', hx0, hx1, hx2⟩ := own_slice hrow
        obtain rfl : fc = fc' := by injection hx0
        unfold maxLen at hx2
        have hk1 : ∀ b, b < w1.heap.size → wr.heap[b]? = w1.heap[b]? := fun b hb => (kp3 b (by omega) (by omega)).trans ((HBV.out.block b (by omega)).trans (HBM.out.block b hb))
        have HK1 := Lib.hid hk1
        have HKP := Lib.hid kp1
        have HKP3 := Lib.hid kp3
        clear hk1 kp1 kp3 hsi hrow heach hmade kR hx0 q0 q1 q2 g0 g1 g2
        have hrow' := HROW.out
        go_wp2_with fail
        obtain ⟨wf, hwf⟩ : ∃ x : World, x = (((wr.setCell ⟨w.heap.size, 0, none⟩ (.slice (some ⟨sb, 0, none⟩) 7 7)).setCell ⟨w.heap.size, 1, none⟩ (.slice (some ⟨w1.heap.size, 0, none⟩) 2 2)).setCell ⟨w.heap.size, 2, none⟩ (.slice (some ⟨f, 0, none⟩) (j + 1) fc)) := ⟨_, rfl⟩
        have y0 : wf.cell? ⟨w.heap.size, 0, none⟩ = some (.slice (some ⟨sb, 0, none⟩) 7 7) := by rw [hwf]; go_simp
        have y1 : wf.cell? ⟨w.heap.size, 1, none⟩ = some (.slice (some ⟨w1.heap.size, 0, none⟩) 2 2) := by rw [hwf]; go_simp
        have y2 : wf.cell? ⟨w.heap.size, 2, none⟩ = some (.slice (some ⟨f, 0, none⟩) (j + 1) fc) := by rw [hwf]; go_simp
        have hzf : wf.heap.size = wr.heap.size := by rw [hwf]; simp [World.setCell]
        have hbf : ∀ b, b ≠ w.heap.size → wf.heap[b]? = wr.heap[b]? := fun b hb => by
          rw [hwf]
          exact ((Below.heap_setCell _ _ _ b (by simpa using hb)).trans (Below.heap_setCell _ _ _ b (by simpa using hb))).trans (Below.heap_setCell _ _ _ b (by simpa using hb))
        have how : ∀ {e : TypeId} {size n : Nat} {v : Value} {xs : List Value}, wr.ownsRow wv.heap.size e size v n xs → wf.ownsRow wv.heap.size e size v n xs := fun h =>
          ⟨h.1, h.2.elim .inl fun ⟨g, cap, cur, h1, h2, h3, h4⟩ => .inr ⟨g, cap, cur, h1, h2, (hbf g (by omega)).trans h3, h4⟩⟩
        have hB : Below w.heap.size w wf := by
          have h1 : Below w.heap.size w wr := HB1.out.trans ((HBM.out.trans (((HBV.out.mono (show w1.heap.size + 1 ≤ wm.heap.size by omega)).trans HKP.out).mono (by omega))).mono (by omega))
          rw [hwf]
          exact ((h1.setCell (Nat.le_refl _) _).setCell (Nat.le_refl _) _).setCell (Nat.le_refl _) _
        rw [← hwf]
        clear hwf
        refine bodyPost_ret (v := .agg #[.slice (some ⟨sb, 0, none⟩) 7 7, .slice (some ⟨w1.heap.size, 0, none⟩) 2 2, .slice (some ⟨f, 0, none⟩) (j + 1) fc]) (by simp [results, Tryd.results19, go_sem, y0, y1, y2]) rfl ⟨⟨sb, w1.heap.size, f, fc, j, codes, vs, by rw [hcl], ?_, ?_, ?_, by omega, hx2, hcl, by omega, HMADE.out⟩, hB⟩
        · refine (HSY.out.keepR (R := w.heap.size) HRC.out (fun b hb hne => (hbf b hne).trans (HK1.out b hb))).moreS (by omega)
        · refine (HKO.out.keepR (R := w.heap.size) ints_ne (fun o v hv => HRC.out o v ((dcell HBM.out (b := w.heap.size) (by omega) o).symm.trans hv)) (fun b hb hne => (hbf b hne).trans ((HKP3.out b (by omega) (by omega)).trans (HBV.out.block b (by omega))))).more (by omega)
        · refine ⟨by omega, fun i v hv => ?_, fun i v b hv hb => ?_, by omega⟩
          · have h := (how HROW.out).cells rfl i v hv
            rw [Addr.add_lit] at h
            simpa using h
          · exact CodeLies.of_own (how (HEACH.out i v b hv hb)) (HMADE.out i b hb).len.1
end Go.Proofs.YtngobbbinacomaaDoor
