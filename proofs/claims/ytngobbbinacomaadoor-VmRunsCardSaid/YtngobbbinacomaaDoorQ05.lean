/- The document's chapters 8, 9: variables and programs are checked, where they are fine. -/
import Derived.Test.YtngobbbinacomaaDoorQ03
import Derived.Test.YtngobbbinacomaaDoorQ04
import Derived.Deep.DeepCutAuto
import Derived.Laws.Strings
import Derived.Test.YtngobbbinacomaaDoorQ06
import Derived.Test.YtngobbbinacomaaDoorQ07
import Derived.Test.YtngobbbinacomaaDoorQ10
namespace Go.Proofs.YtngobbbinacomaaDoor
open Go.RowKit Go.Proofs.YtngobbbinacomaaDoor.c11
set_option linter.unusedVariables false
set_option linter.unusedSimpArgs false
attribute [local go_sem ↓] Go.wp_at_zero Go.wp_at_succ
/-- A variable's seven cells, without fields. -/
structure Sym7 (w : World) (b o : Nat) (s : SymD) (Fa : Option Addr) (Fc : Nat) (Ia : Option Addr) (Ic : Nat) : Prop where
  c0 : w.cell? ⟨b, o, none⟩ = some (.string s.name)
  c1 : w.cell? ⟨b, o + 1, none⟩ = some (.int .i64 s.kind)
  c2 : w.cell? ⟨b, o + 2, none⟩ = some (.int .i64 s.elem)
  c3 : w.cell? ⟨b, o + 3, none⟩ = some (.int .i64 s.n)
  c4 : w.cell? ⟨b, o + 4, none⟩ = some (.slice Fa 0 Fc)
  c5 : w.cell? ⟨b, o + 5, none⟩ = some (.bool s.retain)
  c6 : w.cell? ⟨b, o + 6, none⟩ = some (.slice Ia s.init.length Ic)
theorem Sym7.below {w w' : World} {B b o : Nat} {s : SymD} {Fa Ia : Option Addr} {Fc Ic : Nat} (h : Sym7 w b o s Fa Fc Ia Ic) (hb : Below B w w') (hlt : b < B) : Sym7 w' b o s Fa Fc Ia Ic :=
  ⟨(dcell hb hlt _).trans h.c0, (dcell hb hlt _).trans h.c1, (dcell hb hlt _).trans h.c2, (dcell hb hlt _).trans h.c3, (dcell hb hlt _).trans h.c4, (dcell hb hlt _).trans h.c5, (dcell hb hlt _).trans h.c6⟩
end Go.Proofs.YtngobbbinacomaaDoor

/- The documents' chapters 9, 12: a program is checked, where it is fine; what an instruction bears, takes. -/
namespace Go.Proofs.YtngobbbinacomaaDoor
open Go.RowKit Go.Proofs.YtngobbbinacomaaDoor.c11
set_option linter.unusedVariables false
set_option linter.unusedSimpArgs false
attribute [local go_sem ↓] Go.wp_at_zero Go.wp_at_succ
/-- A program's rows. -/
structure ImgAt (w : World) (SA : Option Addr) (SC : Nat) (l : List SymD) (Ca : Option Addr) (Cc : Nat) (consts : List Int) (Fa : Option Addr) (Fc : Nat) (funcs : List (List Int)) (Fv : Nat → Option Addr) (Fl : Nat → Nat) : Prop where
  syms : Syms w w.heap.size SA l.length l
  sc : l.length ≤ SC ∧ SC ≤ 9223372036854775807
  rk : Row w w.heap.size 1 Ca consts.length (consts.map (Value.int .i64))
  cc : consts.length ≤ Cc ∧ Cc ≤ 9223372036854775807
  rf : Row w w.heap.size 1 Fa funcs.length ((List.range funcs.length).map fun i => Value.slice (Fv i) (funcs.getD i []).length (Fl i))
  fc : funcs.length ≤ Fc ∧ Fc ≤ 9223372036854775807
  code : ∀ i b, funcs[i]? = some b → Row w w.heap.size 1 (Fv i) b.length (b.map (Value.int .u8)) ∧ b.length ≤ Fl i ∧ Fl i ≤ 9223372036854775807 ∧ ∀ x ∈ b, 0 ≤ x ∧ x < 256
theorem ImgAt.below {w w' : World} {SA : Option Addr} {SC : Nat} {l : List SymD} {Ca : Option Addr} {Cc : Nat} {consts : List Int} {Fa : Option Addr} {Fc : Nat} {funcs : List (List Int)} {Fv : Nat → Option Addr} {Fl : Nat → Nat} (h : ImgAt w SA SC l Ca Cc consts Fa Fc funcs Fv Fl) (hb : Below w.heap.size w w') : ImgAt w' SA SC l Ca Cc consts Fa Fc funcs Fv Fl :=
  ⟨(h.syms.below hb).moreS hb.size, h.sc, (h.rk.below hb).more hb.size, h.cc, (h.rf.below hb).more hb.size, h.fc, fun i b hi => ⟨((h.code i b hi).1.below hb).more hb.size, (h.code i b hi).2⟩⟩
/-- How many a sign takes. -/
def takesN (s : Int) : Int :=
  if s = 6 ∨ s = 7 ∨ s = 8 ∨ s = 9 ∨ s = 10 ∨ s = 11 ∨ s = 12 ∨ s = 13 ∨ s = 14 ∨ s = 16 ∨ s = 17 ∨ s = 28 ∨ s = 29 then 2
  else if s = 4 ∨ s = 5 ∨ s = 15 ∨ s = 19 ∨ s = 21 ∨ s = 22 ∨ s = 23 ∨ s = 25 then 1 else 0
set_option maxHeartbeats 4000000 in
set_option maxRecDepth 100000 in
theorem rtakes_any (s : Int) (w : World) : Calls Tryd.prog 76 #[.int .i64 s] w fun e w' => e = .returned (.int .i64 (takesN s)) ∧ w = w' := by
  go_enter Tryd.func76, Tryd.ntmps76
  go_wp2
  all_goals (go_ret; refine ⟨qret ?_, rfl⟩; unfold takesN; first | (subst_vars; rfl) | (simp_all; done) | (simp_all; omega))
def LoopRel (w : World) (top : Nat) (i : Value) (wr : World) : Prop := ∃ j : Nat, i = .int .i64 j ∧ j ≤ top ∧ Below w.heap.size w wr
end Go.Proofs.YtngobbbinacomaaDoor

/- The document's chapter 12: what an instruction bears may be; places; two stacks; where it goes on. -/
namespace Go.Proofs.YtngobbbinacomaaDoor
open Go.RowKit Go.Proofs.YtngobbbinacomaaDoor.c11 Go.Proofs.YtngobbbinacomaaDoor.c10
set_option linter.unusedVariables false
set_option linter.unusedSimpArgs false
attribute [local go_sem ↓] Go.wp_at_zero Go.wp_at_succ
/-- May what an instruction bears be? -/
def bearsB (nc nf : Nat) (cells : List CellD) (s a n : Int) : Bool :=
  if s = 1 then isVal a && decide (wrapK a n = n)
  else if s = 2 then decide (a < nc)
  else if s = 3 ∨ s = 4 then decide (a < cells.length)
  else if s = 5 ∨ s = 6 then decide (a < cells.length) && decide ((cellD cells a).len ≠ 0)
  else if s = 20 then decide (a < nf)
  else if s = 23 then isVal a
  else if s = 24 ∨ s = 25 then decide (a < 4)
  else if s = 27 then decide (a < cells.length) && decide ((cellD cells a).block ≠ 0)
  else true
set_option maxHeartbeats 8000000 in
set_option maxRecDepth 100000 in
theorem rbears_ok (SA Ca Fa A : Option Addr) (ls SC nc Cc nf Fc c : Nat) (cells : List CellD) (s n a0 a1 : Int) (a : Nat) (w : World) (hr : Row w w.heap.size 6 A cells.length (cellRow cells)) (hc : cells.length ≤ c) (hcm : c ≤ 9223372036854775807) (h : bearsB nc nf cells s a n = true) :
    Calls Tryd.prog 63 #[.agg #[.slice SA ls SC, .slice Ca nc Cc, .slice Fa nf Fc], .slice A cells.length c, .agg #[.int .i64 a0, .int .i64 a1, .int .i64 s, .int .i64 a, .int .i64 n]] w fun e w' => e = .returned (.int .i64 0) ∧ Below w.heap.size w w' := by
  have hB : Below w.heap.size w ((w.alloc (.cells #[.slice SA ls SC, .slice Ca nc Cc, .slice Fa nf Fc] 29)).alloc (.cells #[.int .i64 a0, .int .i64 a1, .int .i64 s, .int .i64 a, .int .i64 n] 67)) := ((Below.refl _ w).alloc (Nat.le_refl _) _).alloc (by simp) _
  have HB := Lib.hid hB
  clear hB
  by_cases h27 : s = 5 ∨ s = 6 ∨ s = 27
  · have hx : ∃ x, cells[a]? = some x ∧ (s = 5 ∨ s = 6 → x.len ≠ 0) ∧ (s = 27 → x.block ≠ 0) := by
      have hlt : a < cells.length := by
        unfold bearsB at h
        rcases h27 with rfl | rfl | rfl <;> (simp at h; omega)
      refine ⟨cells[a], List.getElem?_eq_getElem hlt, ?_, ?_⟩
      · intro hs
        unfold bearsB at h
        rcases hs with rfl | rfl <;> (simp [cellD] at h; rw [if_neg (by omega)] at h; simpa [List.getD_eq_getElem?_getD, List.getElem?_eq_getElem hlt] using h.2)
      · rintro rfl
        unfold bearsB at h
        simp [cellD] at h
        rw [if_neg (by omega)] at h
        simpa [List.getD_eq_getElem?_getD, List.getElem?_eq_getElem hlt] using h.2
    obtain ⟨x, hx, h5, h27'⟩ := hx
    have hlt := (List.getElem?_eq_some_iff.1 hx).1
    obtain ⟨b, off, hA, hb, hcc⟩ := hr.2 (by omega)
    have e4 : w.cell? ⟨b, off + a * 6 + 4, none⟩ = some (.int .i64 x.len) := by
      have h := hcc (a * 6 + 4) _ ((flat_get cellCells 6 cellCells_length cells a 4 x hx (by omega)).trans rfl)
      rw [← Nat.add_assoc] at h
      exact h
    have e5 : w.cell? ⟨b, off + a * 6 + 5, none⟩ = some (.int .i64 x.block) := by
      have h := hcc (a * 6 + 5) _ ((flat_get cellCells 6 cellCells_length cells a 5 x hx (by omega)).trans rfl)
      rw [← Nat.add_assoc] at h
      exact h
    subst hA
    have hlt' : (a : Int) < cells.length := by omega
    have hlc : (cells.length : Int) ≤ c := by omega
    have hle : decide ((cells.length : Int) ≤ a) = false := decide_eq_false (by omega)
    have hle' : decide (cells.length ≤ a) = false := decide_eq_false (by omega)
    clear hr hcc h hx
    have hz : (s = 5 ∨ s = 6) ∧ (x.len == 0) = false ∨ s = 27 ∧ (x.block == 0) = false := by
      rcases h27 with rfl | rfl | rfl
      · exact .inl ⟨.inl rfl, by simpa using h5 (.inl rfl)⟩
      · exact .inl ⟨.inr rfl, by simpa using h5 (.inr rfl)⟩
      · exact .inr ⟨rfl, by simpa using h27' rfl⟩
    clear h5 h27' h27
    rcases hz with ⟨rfl | rfl, hz⟩ | ⟨rfl, hz⟩
    all_goals
      go_enter Tryd.func63, Tryd.ntmps63
      go_wp2
      go_ret
      exact ⟨rfl, HB.out⟩
  · clear hr
    have n5 : (s == 5) = false := by simp; omega
    have n6 : (s == 6) = false := by simp; omega
    have n27 : (s == 27) = false := by simp; omega
    by_cases h1 : s = 1
    · subst h1
      simp [bearsB] at h
      have V := Lib.hid (fun u => rvalueK_any a u)
      rw [h.1] at V
      have WR := Lib.hid (fun u => rwrap_any a n u)
      rw [h.2] at WR
      clear h
      go_enter Tryd.func63, Tryd.ntmps63
      go_wp2_with (go_at_call 57; refine (V.out _).mono ?_; rintro e _ ⟨rfl, rfl⟩)
      go_region_with (go_at_call 26; refine (WR.out _).mono ?_; rintro e _ ⟨rfl, rfl⟩)
      all_goals (go_wp2_with fail; go_ret; refine ⟨rfl, ?_⟩; repeat (first | exact HB.out | refine Below.drew ?_ | refine below_dN _ ?_))
    by_cases h23 : s = 23
    · subst h23
      simp [bearsB] at h
      have V := Lib.hid (fun u => rvalueK_any a u)
      rw [h] at V
      clear h
      go_enter Tryd.func63, Tryd.ntmps63
      go_wp2_with (go_at_call 57; refine (V.out _).mono ?_; rintro e _ ⟨rfl, rfl⟩)
      go_ret
      exact ⟨rfl, HB.out⟩
    have n1 : (s == 1) = false := by simpa using h1
    have n23 : (s == 23) = false := by simpa using h23
    have hk : (s = 2 → decide ((nc : Int) ≤ a) = false) ∧ (s = 3 ∨ s = 4 → decide ((cells.length : Int) ≤ a) = false) ∧ (s = 20 → decide ((nf : Int) ≤ a) = false) ∧ (s = 24 ∨ s = 25 → decide ((4 : Int) ≤ a) = false) := by
      refine ⟨?_, ?_, ?_, ?_⟩
      · rintro rfl; simp [bearsB] at h; exact decide_eq_false (by omega)
      · rintro (rfl | rfl) <;> (simp [bearsB] at h; exact decide_eq_false (by omega))
      · rintro rfl; simp [bearsB] at h; exact decide_eq_false (by omega)
      · rintro (rfl | rfl) <;> (simp [bearsB] at h; exact decide_eq_false (by omega))
    clear h
    by_cases h2 : s = 2
    · subst h2
      have q := hk.1 rfl
      have q' : decide (nc ≤ a) = false := decide_eq_false (by have := of_decide_eq_false q; omega)
      clear hk
      go_enter Tryd.func63, Tryd.ntmps63
      go_wp2
      go_ret
      exact ⟨rfl, HB.out⟩
    by_cases h3 : s = 3 ∨ s = 4
    · have q := hk.2.1 h3
      have q' : decide (cells.length ≤ a) = false := decide_eq_false (by have := of_decide_eq_false q; omega)
      clear hk
      rcases h3 with rfl | rfl
      all_goals
        go_enter Tryd.func63, Tryd.ntmps63
        go_wp2
        go_ret
        exact ⟨rfl, HB.out⟩
    by_cases h20 : s = 20
    · subst h20
      have q := hk.2.2.1 rfl
      have q' : decide (nf ≤ a) = false := decide_eq_false (by have := of_decide_eq_false q; omega)
      clear hk
      go_enter Tryd.func63, Tryd.ntmps63
      go_wp2
      go_ret
      exact ⟨rfl, HB.out⟩
    by_cases h24 : s = 24 ∨ s = 25
    · have q := hk.2.2.2 h24
      have q' : decide (4 ≤ a) = false := decide_eq_false (by have := of_decide_eq_false q; omega)
      clear hk
      rcases h24 with rfl | rfl
      all_goals
        go_enter Tryd.func63, Tryd.ntmps63
        go_wp2
        go_ret
        exact ⟨rfl, HB.out⟩
    have n2 : (s == 2) = false := by simpa using h2
    have n3 : (s == 3) = false := by simp; omega
    have n4 : (s == 4) = false := by simp; omega
    have n20 : (s == 20) = false := by simpa using h20
    have n24 : (s == 24) = false := by simp; omega
    have n25 : (s == 25) = false := by simp; omega
    clear hk h1 h2 h3 h20 h23 h24 h27
    go_enter Tryd.func63, Tryd.ntmps63
    go_wp2
    go_ret
    exact ⟨rfl, HB.out⟩
end Go.Proofs.YtngobbbinacomaaDoor

/- The document's chapter 12: the stack behind an instruction, plain. -/
namespace Go.Proofs.YtngobbbinacomaaDoor
open Go.RowKit Go.Proofs.YtngobbbinacomaaDoor.c11 Go.Proofs.YtngobbbinacomaaDoor.c10
set_option linter.unusedVariables false
set_option linter.unusedSimpArgs false
/-- What a plain one puts. -/
def putsP (cells : List CellD) (s : Int) (a : Nat) : Int := if s = 1 then a else if s = 26 then 6 else if s = 3 then (cellD cells a).kind else 5
def does1 (cells : List CellD) (s : Int) (a : Nat) (base : List Int) (b : Int) : Option (List Int) :=
  if s = 4 then (if b = (cellD cells a).kind then some base else none)
  else if s = 5 then (if b = 5 then some (base ++ [(cellD cells a).kind]) else none)
  else if s = 15 then (if b = 1 ∨ b = 2 ∨ b = 3 then some (base ++ [b]) else none)
  else if s = 19 then (if b = 1 then some base else none)
  else if s = 21 then some (base ++ [b, b])
  else if s = 22 then some base
  else if s = 23 then some (base ++ [(a : Int)])
  else if s = 25 then (if b = 5 then some base else none)
  else none
def does2 (cells : List CellD) (s : Int) (a : Nat) (base : List Int) (aa b : Int) : Option (List Int) :=
  if s = 6 then (if b = (cellD cells a).kind ∧ aa = 5 then some base else none)
  else if kindE s aa b = 0 then some (base ++ [kindM s aa b]) else none
def does0 (cells : List CellD) (s : Int) (a : Nat) (st : List Int) : Option (List Int) :=
  if s = 1 ∨ s = 26 ∨ s = 2 ∨ s = 24 ∨ s = 3 then some (st ++ [putsP cells s a]) else some st
/-- The stack behind an instruction, if it may stand there. -/
def doesP (cells : List CellD) (s : Int) (a : Nat) (st : List Int) : Option (List Int) :=
  (if takesN s = 0 then does0 cells s a st
   else if takesN s = 1 then (match st.reverse with | b :: r => does1 cells s a r.reverse b | [] => none)
   else (match st.reverse with | b :: aa :: r => does2 cells s a r.reverse aa b | _ => none)).bind fun o => if o.length ≤ 8 then some o else none
end Go.Proofs.YtngobbbinacomaaDoor
