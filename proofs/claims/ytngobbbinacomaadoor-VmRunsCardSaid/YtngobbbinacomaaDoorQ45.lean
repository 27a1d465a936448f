/- Chapter 14: a sound program run with an out of its own, for VmRuns. -/
import Derived.Test.YtngobbbinacomaaDoorQ33
import Derived.Test.YtngobbbinacomaaDoorQ44
namespace Go.Proofs.YtngobbbinacomaaDoor
open Go.RowKit Go.Proofs.YtngobbbinacomaaDoor.c11 Go.Proofs.YtngobbbinacomaaDoor.c10 Go.Proofs.YtngobbbinacomaaDoor.c13
set_option linter.unusedVariables false
set_option linter.unusedSimpArgs false
/-- A run with an out of its own. -/
def ranO (E : Env) (zs : List Int) (p0 p1 p2 p3 : Int) (l : Nat) : St × Int := execP E (l + 1) (E.funcs.getD 0 []) 0 ⟨zs, p0, p1, p2, p3, l, 0, []⟩
theorem callP_ranO (E : Env) (hf : 0 < E.funcs.length) (La : Option Addr) (Lc : Nat) (zs : List Int) (p0 p1 p2 p3 : Int) (l : Nat) : callP (atLay E La Lc) (l + 1) ⟨zs, p0, p1, p2, p3, l, 0, []⟩ 0 = ({ (ranO E zs p0 p1 p2 p3 l).1 with stk := [] }, (ranO E zs p0 p1 p2 p3 l).2) := by
  unfold callP ranO
  rw [if_pos (by show (0 : Int) < E.funcs.length; omega), execP_lay]
  rfl
/-- A sound program run: what it used, its error, and, if there is none, what it left. -/
theorem sound_runO (longer : Bool) {sb cb f fc nf : Nat} {codes : List (List Int)} {vs : List Value} {u : World} (hs : Syms u u.heap.size (some ⟨sb, 0, none⟩) 7 (symsP longer)) (hk : Row u u.heap.size 1 (some ⟨cb, 0, none⟩) 2 (([7, -1] : List Int).map (Value.int .i64))) (hF : FuncsAt u f codes vs) (hfc : codes.length ≤ fc ∧ fc ≤ 9223372036854775807) (hcl : codes.length = nf + 1) (hnf : nf ≤ 2)
    (hm : ∀ (i : Nat) (b : List Int), codes[i]? = some b → CodeMade (cellsOf (symsP longer)) (if i = 0 then (nf : Int) else 0) b) (i0 i1 i2 i3 now p0 p1 p2 p3 : Int) (CA : Option Addr) (n CC : Nat) (zs : List Int) (hz : Row u u.heap.size 1 CA n (zs.map (Value.int .i64))) (hzn : n ≤ 1000000) (hzc : n ≤ CC) (B : Int) (hB : B ≤ 1000000) :
    Calls Tryd.prog 22 #[.agg #[.slice (some ⟨sb, 0, none⟩) 7 7, .slice (some ⟨cb, 0, none⟩) 2 2, .slice (some ⟨f, 0, none⟩) codes.length fc], .slice CA n CC, .agg #[.int .i64 i0, .int .i64 i1, .int .i64 i2, .int .i64 i3], .agg #[.int .i64 p0, .int .i64 p1, .int .i64 p2, .int .i64 p3], .int .i64 now, .int .i64 B] u fun e w' =>
      Below u.heap.size u w' ∧ ∃ v o0 o1 o2 o3, e = .returned (.tuple #[v, .agg #[.int .i64 o0, .int .i64 o1, .int .i64 o2, .int .i64 o3], .int .i64 ((ranO (envS longer sb cb f fc codes vs i0 i1 i2 i3 now) zs p0 p1 p2 p3 (max B 0).toNat).1.used : Nat), .int .i64 (ranO (envS longer sb cb f fc codes vs i0 i1 i2 i3 now) zs p0 p1 p2 p3 (max B 0).toNat).2]) ∧
        (((ranO (envS longer sb cb f fc codes vs i0 i1 i2 i3 now) zs p0 p1 p2 p3 (max B 0).toNat).2 = 0 ∧ o0 = (ranO (envS longer sb cb f fc codes vs i0 i1 i2 i3 now) zs p0 p1 p2 p3 (max B 0).toNat).1.o0 ∧ o1 = (ranO (envS longer sb cb f fc codes vs i0 i1 i2 i3 now) zs p0 p1 p2 p3 (max B 0).toNat).1.o1 ∧ o2 = (ranO (envS longer sb cb f fc codes vs i0 i1 i2 i3 now) zs p0 p1 p2 p3 (max B 0).toNat).1.o2 ∧ o3 = (ranO (envS longer sb cb f fc codes vs i0 i1 i2 i3 now) zs p0 p1 p2 p3 (max B 0).toNat).1.o3 ∧ w'.ownsRow u.heap.size 3 1 v (ranO (envS longer sb cb f fc codes vs i0 i1 i2 i3 now) zs p0 p1 p2 p3 (max B 0).toNat).1.cells.length ((ranO (envS longer sb cb f fc codes vs i0 i1 i2 i3 now) zs p0 p1 p2 p3 (max B 0).toNat).1.cells.map (Value.int .i64)))
          ∨ ((ranO (envS longer sb cb f fc codes vs i0 i1 i2 i3 now) zs p0 p1 p2 p3 (max B 0).toNat).2 ≠ 0 ∧ v = .slice none 0 0 ∧ o0 = 0 ∧ o1 = 0 ∧ o2 = 0 ∧ o3 = 0)) := by
  have hbytes : ∀ b ∈ codes, ∀ x ∈ b, 0 ≤ x ∧ x < 256 := fun b hb => by
    obtain ⟨i, hi, rfl⟩ := List.getElem_of_mem hb
    exact (hm i _ (List.getElem?_eq_getElem hi)).bytes (symsP_kinds longer)
  have hlen : ∀ b ∈ codes, b.length ≤ 120 := fun b hb => by
    obtain ⟨i, hi, rfl⟩ := List.getElem_of_mem hb
    have := (hm i _ (List.getElem?_eq_getElem hi)).len
    omega
  have hsl : (symsP longer).length = 7 := by cases longer <;> rfl
  have hrun := run_any (envS longer sb cb f fc codes vs i0 i1 i2 i3 now) (some ⟨sb, 0, none⟩) 7 (symsP longer) u (imgF (by rw [hsl]; exact hs) (by omega) (by omega) hk (by decide) hF hfc hbytes hlen i0 i1 i2 i3 now) (symsP_len longer) (.inr fun M K S a h0 h1 => blocks_all M K S a h0 h1) CA n CC zs hz hzn hzc p0 p1 p2 p3 B hB
  have e1 : (envS longer sb cb f fc codes vs i0 i1 i2 i3 now).syms = .slice (some ⟨sb, 0, none⟩) 7 7 := by simp [envS, envF, hsl]
  rw [e1] at hrun
  refine hrun.mono ?_
  rintro e w' ⟨hb, La, Lc, hh⟩
  have hc := callP_ranO (envS longer sb cb f fc codes vs i0 i1 i2 i3 now) (show 0 < codes.length by omega) La Lc zs p0 p1 p2 p3 (max B 0).toNat
  simp only [hc] at hh
  refine ⟨hb, ?_⟩
  rcases hh with ⟨h0, v, he, hv⟩ | ⟨h0, he⟩
  · refine ⟨v, _, _, _, _, ?_, .inl ⟨h0, rfl, rfl, rfl, rfl, hv⟩⟩
    rw [he, h0]
  · exact ⟨_, 0, 0, 0, 0, he, .inr ⟨h0, rfl, rfl, rfl, rfl, rfl⟩⟩
end Go.Proofs.YtngobbbinacomaaDoor
