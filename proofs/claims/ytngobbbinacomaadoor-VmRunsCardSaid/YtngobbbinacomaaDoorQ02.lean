/- Rows of cells: a slice that reads as a list of cells, wherever it lies; what is appended to a row of the call's own, or to a slice without room. No program's text in it. -/
import Derived.Below
import Derived.Laws.OwnMore
import Derived.Laws.Rows
import Derived.Maps.AppendAt
import Derived.Deep.AppendLies
import Derived.Deep.Draws
import Derived.RegionTactic
import Derived.OwnWalk
import Derived.Lib.Hide
import Derived.WalkKit
namespace Go.Proofs.YtngobbbinacomaaDoor
open Go.RowKit
set_option linter.unusedVariables false
/-- The slice at A, of n elements, reads as the cells xs, size to an element; it lies below block B. -/
def Row (w : World) (B size : Nat) (A : Option Addr) (n : Nat) (xs : List Value) : Prop :=
  xs.length = n * size ∧ (0 < n → ∃ b off, A = some ⟨b, off, none⟩ ∧ b < B ∧ ∀ j u, xs[j]? = some u → w.cell? ⟨b, off + j, none⟩ = some u)
section
variable {w w' : World} {B B' size n : Nat} {A : Option Addr} {xs : List Value}
theorem Row.nil : Row w B size A 0 [] := ⟨by simp, fun h => absurd h (by omega)⟩
theorem Row.keep (h : Row w B size A n xs) (hk : ∀ b o, b < B → w'.cell? ⟨b, o, none⟩ = w.cell? ⟨b, o, none⟩) : Row w' B size A n xs :=
  ⟨h.1, fun hn => by
    obtain ⟨b, off, e, hb, hc⟩ := h.2 hn
    exact ⟨b, off, e, hb, fun j u hu => (hk _ _ hb).trans (hc j u hu)⟩⟩
theorem Row.more (h : Row w B size A n xs) (hB : B ≤ B') : Row w B' size A n xs :=
  ⟨h.1, fun hn => by
    obtain ⟨b, off, e, hb, hc⟩ := h.2 hn
    exact ⟨b, off, e, by omega, hc⟩⟩
theorem Row.below (h : Row w B size A n xs) (hb : Below B w w') : Row w' B size A n xs := h.keep fun b o hp => hb.cell (p := ⟨b, o, none⟩) hp
theorem Row.drewN (h : Row w B size A n xs) (k : Nat) : Row (w.drewN k) B size A n xs := h
theorem Row.drew (h : Row w B size A n xs) : Row w.drew B size A n xs := h
theorem Row.alloc (h : Row w B size A n xs) (hB : B ≤ w.heap.size) (o : Obj) : Row (w.alloc o) B size A n xs := h.keep fun b o' hp => World.cell?_alloc_lt w o ⟨b, o', none⟩ (by simp only; omega)
theorem Row.setCell (h : Row w B size A n xs) {p : Addr} (hB : B ≤ p.block) (u : Value) : Row (w.setCell p u) B size A n xs :=
  h.keep fun b o hq => World.cell?_setCell_other w p ⟨b, o, none⟩ u (fun e => by subst e; simp at hB; omega)
theorem Row.grown (h : Row w B size A n xs) {row : Option Nat} (hg : w.grownBy w' row) (hB : B ≤ w.heap.size) (hr : ∀ g, row = some g → B ≤ g) : Row w' B size A n xs :=
  h.keep fun b o hp => World.cell?_of_block (a := ⟨b, o, none⟩) (hg.block b (by omega) (fun e => by have := hr _ e.symm; omega))
theorem Row.of_own {base : Nat} {e : TypeId} {c : Nat} (h : w.ownsRow base e size (.slice A n c) n xs) : Row w w.heap.size size A n xs := by
  refine ⟨h.1, fun hn => ?_⟩
  obtain ⟨g, cap, hv, _, hlt⟩ := h.form hn
  have hA : A = some ⟨g, 0, none⟩ := by injection hv
  subst hA
  refine ⟨g, 0, rfl, hlt, fun j u hu => ?_⟩
  have := h.cells (g := g) rfl j u hu
  rw [Addr.add_lit] at this
  exact this
theorem own_slice {base : Nat} {e : TypeId} {v : Value} (h : w.ownsRow base e size v n xs) : ∃ A c, v = .slice A n c ∧ n ≤ c ∧ c ≤ maxLen := by
  rcases h.2 with ⟨rfl, rfl⟩ | ⟨g, cap, cur, rfl, _, _, hn, hm, _⟩
  · exact ⟨none, 0, rfl, by omega, by unfold maxLen; omega⟩
  · exact ⟨_, cap, rfl, hn, hm⟩
end
theorem row_keep {wr u : World} {base : Nat} {e : TypeId} {size n : Nat} {v : Value} {xs : List Value} (h : wr.ownsRow base e size v n xs) (hb : Below wr.heap.size wr u) : u.ownsRow base e size v n xs := by
  refine h.kept (row := none) ⟨hb.os, hb.tape, hb.output, hb.size, fun k hk _ => hb.block k hk⟩ ?_
  cases h : v.ownBlock
  · exact .inl rfl
  · exact .inr (by simp)
section
variable {P : Program} (w : World)
/-- Nothing appended: the slice itself, nothing done. -/
theorem run_append_zero (t ty e : TypeId) (i : TypeInfo) (ht : P.underlying t = some (.slice e)) (hi : P.info? e = some i) (A : Option Addr) (n c : Nat) (hn : n ≤ c) (A' : Option Addr) (c' : Nat) :
    (Builtin.append_ #[t, t] ty #[.slice A n c, .slice A' 0 c']).run P w = .ok (.slice A n c) w := by
  rcases A' with _ | a'
  · rcases A with _ | a
    · simp [Builtin.append_, run_underlying ht, sizeOf, typeInfo, hi, Builtin.lenOf, Builtin.firstCells, hn]
    · simp [Builtin.append_, run_underlying ht, sizeOf, typeInfo, hi, Builtin.lenOf, Builtin.firstCells, hn, storeCells]
  · rcases A with _ | a
    · simp [Builtin.append_, run_underlying ht, sizeOf, typeInfo, hi, Builtin.lenOf, Builtin.firstCells, hn, loadCells, loadCellsFrom]
    · simp [Builtin.append_, run_underlying ht, sizeOf, typeInfo, hi, Builtin.lenOf, Builtin.firstCells, hn, loadCells, loadCellsFrom, storeCells]
/-- A row of the call's own, a slice behind it. -/
theorem run_append_row (base : Nat) (t ty e : TypeId) (i : TypeInfo) (z : Value) (size bytes : Nat) (ht : P.underlying t = some (.slice e)) (hi : P.info? e = some i) (hz : i.zero = some z)
    (hsize : i.size = size) (hby : i.bytes = bytes) (hzs : z.cells.size = size) (hsz : 0 < size)
    (v : Value) (n : Nat) (xs : List Value) (hown : w.ownsRow base e size v n xs)
    (B : Nat) (A : Option Addr) (m c : Nat) (news : List Value) (hr : Row w B size A m news) (h1 : ∀ u ∈ news, u.oneCell' = true)
    (h63 : n + m ≤ maxLen) (hbytes : (n + m) * bytes ≤ 140737488355328) (hbase : base ≤ w.heap.size) :
    ∃ v' w', (Builtin.append_ #[t, t] ty #[v, .slice A m c]).run P w = .ok v' w' ∧ w'.ownsRow base e size v' (n + m) (xs ++ news) ∧ w.grownBy w' v.ownBlock ∧
      (v'.ownBlock = v.ownBlock ∨ v'.ownBlock = some w.heap.size) := by
  rcases Nat.eq_zero_or_pos m with h0 | h0
  · subst h0
    have hn : news = [] := List.eq_nil_of_length_eq_zero (by simpa using hr.1)
    subst hn
    obtain ⟨A', c', rfl, hc, _⟩ := own_slice hown
    exact ⟨_, w, run_append_zero w t ty e i ht hi A' n c' hc A c, by simpa using hown, ⟨rfl, rfl, rfl, Nat.le_refl _, fun _ _ _ => rfl⟩, .inl rfl⟩
  · obtain ⟨b, off, rfl, _, hcell⟩ := hr.2 h0
    obtain ⟨v', w', hrun, h2, h3, _, h5⟩ := run_append_own_at (P := P) w base t ty e i z size bytes ht hi hz hsize hby hzs hsz v n xs hown ⟨b, off, none⟩ m c news hr.1
      (fun j u hu => by rw [Addr.add_lit]; exact hcell j u hu) h1 h63 hbytes hbase
    exact ⟨v', w', hrun, h2, h3, h5⟩
/-- A slice without room, a slice behind it: a row that is new, or the slice itself. -/
theorem run_append_full (t ty e : TypeId) (i : TypeInfo) (z : Value) (size bytes : Nat) (ht : P.underlying t = some (.slice e)) (hi : P.info? e = some i) (hz : i.zero = some z)
    (hsize : i.size = size) (hby : i.bytes = bytes) (hzs : z.cells.size = size) (hsz : 0 < size)
    (B : Nat) (A : Option Addr) (n : Nat) (xs : List Value) (hl : Row w B size A n xs) (hB : B ≤ w.heap.size)
    (A' : Option Addr) (m c : Nat) (news : List Value) (hr : Row w B size A' m news)
    (h63 : n + m ≤ maxLen) (hbytes : (n + m) * bytes ≤ 140737488355328) :
    ∃ R cap w', (Builtin.append_ #[t, t] ty #[.slice A n n, .slice A' m c]).run P w = .ok (.slice R (n + m) cap) w' ∧ n + m ≤ cap ∧ cap ≤ maxLen ∧ Row w' w'.heap.size size R (n + m) (xs ++ news) ∧ Below w.heap.size w w' := by
  subst hsize
  subst hby
  have hsmall : n + m ≤ 9223372036854775807 := by simp only [maxLen] at h63; omega
  rcases Nat.eq_zero_or_pos m with h0 | h0
  · subst h0
    have hn : news = [] := List.eq_nil_of_length_eq_zero (by simpa using hr.1)
    subst hn
    exact ⟨A, n, w, run_append_zero w t ty e i ht hi A n n (Nat.le_refl _) A' c, Nat.le_refl _, h63, by simpa using hl.more hB, Below.refl _ _⟩
  · obtain ⟨b, off, rfl, _, hcell⟩ := hr.2 h0
    have hnews : ∀ j u, news[j]? = some u → w.cell? ((⟨b, off, none⟩ : Addr).add j) = some u := fun j u hu => by rw [Addr.add_lit]; exact hcell j u hu
    have hge := grownCap_ge w (n + m) n e
    have hcm : grownCap w (n + m) n e ≤ maxLen := grownCap_le_maxLen w (n + m) n e h63
    have hrow : ∀ (cur : List Value), Row (w.drew.alloc (.cells ((xs ++ news).toArray ++ cur.toArray) e)) (w.drew.alloc (.cells ((xs ++ news).toArray ++ cur.toArray) e)).heap.size i.size (some ⟨w.heap.size, 0, none⟩) (n + m) (xs ++ news) := by
      intro cur
      refine ⟨by rw [List.length_append, hl.1, hr.1, Nat.add_mul], fun _ => ⟨w.heap.size, 0, rfl, by simp, fun j u hu => ?_⟩⟩
      have hj : j < (xs ++ news).length := (List.getElem?_eq_some_iff.1 hu).1
      simp only [Nat.zero_add]
      refine (cell_of_row (w.drew.alloc (.cells ((xs ++ news).toArray ++ cur.toArray) e)) w.drew.heap.size j _ e (0, 0) (heap_alloc_new w.drew _)).trans ?_
      rw [Array.getElem?_append_left (by simpa using hj)]
      simpa using hu
    rcases Nat.eq_zero_or_pos n with hn0 | hn0
    · subst hn0
      have hx : xs = [] := List.eq_nil_of_length_eq_zero (by simpa using hl.1)
      subst hx
      rcases A with _ | a
      · have hrun := run_append_nil (P := P) w t ty e i z ht hi hz ⟨b, off, none⟩ m c news hr.1 hnews (by omega) (by omega) (by have hb := hbytes; simp only [Nat.zero_add] at hb; omega)
        refine ⟨_, _, _, (by simpa using hrun), by simpa using hge, by simpa using hcm, ?_, ?_⟩
        · have := hrow (Builtin.zeroCells z.cells (grownCap w (0 + m) 0 e - (0 + m))).toList
          simpa using this
        · exact ((Below.refl _ w).drew).alloc (by simp) _
      · have hrun := run_append_grow (P := P) w t ty e i z ht hi hz a 0 0 [] (by simp) (by simp) ⟨b, off, none⟩ m c news hr.1 hnews (by omega) (by omega) (growslice_fits (by omega) hbytes)
        refine ⟨_, _, _, hrun, hge, hcm, ?_, ?_⟩
        · have := hrow (Builtin.zeroCells z.cells (grownCap w (0 + m) 0 e - (0 + m))).toList
          simpa using this
        · exact ((Below.refl _ w).drew).alloc (by simp) _
    · obtain ⟨b', off', rfl, _, hcell'⟩ := hl.2 hn0
      have holds : ∀ j u, xs[j]? = some u → w.cell? ((⟨b', off', none⟩ : Addr).add j) = some u := fun j u hu => by rw [Addr.add_lit]; exact hcell' j u hu
      have hrun := run_append_grow (P := P) w t ty e i z ht hi hz ⟨b', off', none⟩ n n xs hl.1 holds ⟨b, off, none⟩ m c news hr.1 hnews (by omega) (by omega) (growslice_fits (by omega) hbytes)
      refine ⟨_, _, _, hrun, hge, hcm, ?_, ?_⟩
      · have := hrow (Builtin.zeroCells z.cells (grownCap w (n + m) n e - (n + m))).toList
        simpa using this
      · exact ((Below.refl _ w).drew).alloc (by simp) _
theorem wp_append_row {o : Oper} {a : Act} {K : Act → World → Prop} {Q : Exit → Act → World → Prop} (s x : Operand) (t : TypeId)
    (ho : o.op = .call { callee := .builtin .append, args := #[s, x], argTypes := #[t, t] })
    (base : Nat) (e : TypeId) (i : TypeInfo) (z : Value) (size bytes : Nat) (ht : P.underlying t = some (.slice e)) (hi : P.info? e = some i) (hz : i.zero = some z)
    (hsize : i.size = size) (hby : i.bytes = bytes) (hzs : z.cells.size = size) (hsz : 0 < size)
    (v : Value) (n : Nat) (xs : List Value) (hs : a.eval s = v) (hown : w.ownsRow base e size v n xs)
    (B : Nat) (A : Option Addr) (m c : Nat) (news : List Value) (hx : a.eval x = .slice A m c) (hr : Row w B size A m news) (h1 : ∀ u ∈ news, u.oneCell' = true)
    (h63 : n + m ≤ maxLen) (hbytes : (n + m) * bytes ≤ 140737488355328) (hbase : base ≤ w.heap.size)
    (h : ∀ v' w', w'.ownsRow base e size v' (n + m) (xs ++ news) → w.grownBy w' v.ownBlock → (v'.ownBlock = v.ownBlock ∨ v'.ownBlock = some w.heap.size) → K (a.put o.dst v') w') : o.wp P a w K Q := by
  obtain ⟨v', w', hrun, h2, h3, h4⟩ := run_append_row (P := P) w base t o.type e i z size bytes ht hi hz hsize hby hzs hsz v n xs hown B A m c news hr h1 h63 hbytes hbase
  unfold Oper.wp execOp
  simp only [ho, resolve, invoke, builtin, Sem.run_bind, Sem.run_pure, Result.andThen_ok, List.map_toArray, List.map_cons, List.map_nil, hs, hx, hrun]
  exact h v' w' h2 h3 h4
theorem wpList_append_row {ops : Array Oper} {rest : List Oper} {o : Oper} {a : Act} {Q : Exit → Act → World → Prop} (hgd : o.guard = none) (s x : Operand) (t : TypeId)
    (ho : o.op = .call { callee := .builtin .append, args := #[s, x], argTypes := #[t, t] })
    (base : Nat) (e : TypeId) (i : TypeInfo) (z : Value) (size bytes : Nat) (ht : P.underlying t = some (.slice e)) (hi : P.info? e = some i) (hz : i.zero = some z)
    (hsize : i.size = size) (hby : i.bytes = bytes) (hzs : z.cells.size = size) (hsz : 0 < size)
    (v : Value) (n : Nat) (xs : List Value) (hs : a.eval s = v) (hown : w.ownsRow base e size v n xs)
    (B : Nat) (A : Option Addr) (m c : Nat) (news : List Value) (hx : a.eval x = .slice A m c) (hr : Row w B size A m news) (h1 : ∀ u ∈ news, u.oneCell' = true)
    (h63 : n + m ≤ maxLen) (hbytes : (n + m) * bytes ≤ 140737488355328) (hbase : base ≤ w.heap.size)
    (h : ∀ v' w', w'.ownsRow base e size v' (n + m) (xs ++ news) → w.grownBy w' v.ownBlock → (v'.ownBlock = v.ownBlock ∨ v'.ownBlock = some w.heap.size) → wpList P ops Q rest (a.put o.dst v') w') : wpList P ops Q (o :: rest) a w :=
  wpList_plain hgd fun _ hK => wp_append_row w s x t ho base e i z size bytes ht hi hz hsize hby hzs hsz v n xs hs hown B A m c news hx hr h1 h63 hbytes hbase fun v' w' h2 h3 h4 => hK _ _ (h v' w' h2 h3 h4)
theorem step_append_row {ops : Array Oper} {o : Oper} {a : Act} {K : Act → World → Prop} {Q : Exit → Act → World → Prop} {E : Prop} (hgd : o.guard = none) (s x : Operand) (t : TypeId)
    (ho : o.op = .call { callee := .builtin .append, args := #[s, x], argTypes := #[t, t] })
    (base : Nat) (e : TypeId) (i : TypeInfo) (z : Value) (size bytes : Nat) (ht : P.underlying t = some (.slice e)) (hi : P.info? e = some i) (hz : i.zero = some z)
    (hsize : i.size = size) (hby : i.bytes = bytes) (hzs : z.cells.size = size) (hsz : 0 < size)
    (v : Value) (n : Nat) (xs : List Value) (hs : a.eval s = v) (hown : w.ownsRow base e size v n xs)
    (B : Nat) (A : Option Addr) (m c : Nat) (news : List Value) (hx : a.eval x = .slice A m c) (hr : Row w B size A m news) (h1 : ∀ u ∈ news, u.oneCell' = true)
    (h63 : n + m ≤ maxLen) (hbytes : (n + m) * bytes ≤ 140737488355328) (hbase : base ≤ w.heap.size)
    (h : ∀ v' w', w'.ownsRow base e size v' (n + m) (xs ++ news) → w.grownBy w' v.ownBlock → (v'.ownBlock = v.ownBlock ∨ v'.ownBlock = some w.heap.size) → K (a.put o.dst v') w') :
    if Region.wanted o (yielded ops a.tmps) = true then Oper.wp P o a w K Q else E := by
  have hw : Region.wanted o (yielded ops a.tmps) = true := by simp [Region.wanted, hgd]
  rw [if_pos hw]
  exact wp_append_row w s x t ho base e i z size bytes ht hi hz hsize hby hzs hsz v n xs hs hown B A m c news hx hr h1 h63 hbytes hbase h
theorem wpList_append_full {ops : Array Oper} {rest : List Oper} {o : Oper} {a : Act} {Q : Exit → Act → World → Prop} (hgd : o.guard = none) (s x : Operand) (t : TypeId)
    (ho : o.op = .call { callee := .builtin .append, args := #[s, x], argTypes := #[t, t] })
    (e : TypeId) (i : TypeInfo) (z : Value) (size bytes : Nat) (ht : P.underlying t = some (.slice e)) (hi : P.info? e = some i) (hz : i.zero = some z)
    (hsize : i.size = size) (hby : i.bytes = bytes) (hzs : z.cells.size = size) (hsz : 0 < size)
    (B : Nat) (A : Option Addr) (n : Nat) (xs : List Value) (hs : a.eval s = .slice A n n) (hl : Row w B size A n xs) (hB : B ≤ w.heap.size)
    (A' : Option Addr) (m c : Nat) (news : List Value) (hx : a.eval x = .slice A' m c) (hr : Row w B size A' m news)
    (h63 : n + m ≤ maxLen) (hbytes : (n + m) * bytes ≤ 140737488355328)
    (h : ∀ R cap w', n + m ≤ cap → cap ≤ maxLen → Row w' w'.heap.size size R (n + m) (xs ++ news) → Below w.heap.size w w' → wpList P ops Q rest (a.put o.dst (.slice R (n + m) cap)) w') : wpList P ops Q (o :: rest) a w := by
  refine wpList_plain hgd fun K hK => ?_
  obtain ⟨R, cap, w', hrun, h1, h2, h3, h4⟩ := run_append_full (P := P) w t o.type e i z size bytes ht hi hz hsize hby hzs hsz B A n xs hl hB A' m c news hr h63 hbytes
  unfold Oper.wp execOp
  simp only [ho, resolve, invoke, builtin, Sem.run_bind, Sem.run_pure, Result.andThen_ok, List.map_toArray, List.map_cons, List.map_nil, hs, hx, hrun]
  exact hK _ _ (h R cap w' h1 h2 h3 h4)
end
end Go.Proofs.YtngobbbinacomaaDoor
