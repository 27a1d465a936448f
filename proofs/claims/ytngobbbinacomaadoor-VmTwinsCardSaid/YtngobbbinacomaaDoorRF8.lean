/- The documents' chapters 9, 12: a program is checked, where it is fine; what an instruction bears, takes. -/
import Derived.Test.YtngobbbinacomaaDoorRE8
import Derived.Test.YtngobbbinacomaaDoorRC8
import Derived.Test.YtngobbbinacomaaDoorMA11
namespace Go.Proofs.YtngobbbinacomaaDoor
open Go.RowKit Go.Proofs.YtngobbbinacomaaDoor.c11
set_option linter.unusedVariables false
set_option linter.unusedSimpArgs false
attribute [local go_sem ↓] Go.wp_at_zero Go.wp_at_succ

/-- A program's rows. -/
structure ImgAt (w : World) (SA : Option Addr) (SC : Nat) (l : List SymD) (Ca : Option Addr) (Cc : Nat) (consts : List Int) (Fa : Option Addr) (Fc : Nat) (funcs : List (List Int)) (Fv : Nat → Option Addr) (Fl : Nat → Nat) : Prop where
  syms : Syms w w.heap.size SA l.length l
  sc : l.length ≤ SC ∧ SC ≤ 9223372036854775807
  rk : Row w w.heap.size 1 Ca consts.length (consts.map (Value.int .i64))
  cc : consts.length ≤ Cc ∧ Cc ≤ 9223372036854775807
  rf : Row w w.heap.size 1 Fa funcs.length ((List.range funcs.length).map fun i => Value.slice (Fv i) (funcs.getD i []).length (Fl i))
  fc : funcs.length ≤ Fc ∧ Fc ≤ 9223372036854775807
  code : ∀ i b, funcs[i]? = some b → Row w w.heap.size 1 (Fv i) b.length (b.map (Value.int .u8)) ∧ b.length ≤ Fl i ∧ Fl i ≤ 9223372036854775807 ∧ ∀ x ∈ b, 0 ≤ x ∧ x < 256
theorem ImgAt.below {w w' : World} {SA : Option Addr} {SC : Nat} {l : List SymD} {Ca : Option Addr} {Cc : Nat} {consts : List Int} {Fa : Option Addr} {Fc : Nat} {funcs : List (List Int)} {Fv : Nat → Option Addr} {Fl : Nat → Nat} (h : ImgAt w SA SC l Ca Cc consts Fa Fc funcs Fv Fl) (hb : Below w.heap.size w w') : ImgAt w' SA SC l Ca Cc consts Fa Fc funcs Fv Fl :=
  ⟨(h.syms.below hb).moreS hb.size, h.sc, (h.rk.below hb).more hb.size, h.cc, (h.rf.below hb).more hb.size, h.fc, fun i b hi => ⟨((h.code i b hi).1.below hb).more hb.size, (h.code i b hi).2⟩⟩

/-- How many a sign takes. -/
def takesN (s : Int) : Int :=
  if s = 6 ∨ s = 7 ∨ s = 8 ∨ s = 9 ∨ s = 10 ∨ s = 11 ∨ s = 12 ∨ s = 13 ∨ s = 14 ∨ s = 16 ∨ s = 17 ∨ s = 28 ∨ s = 29 then 2
  else if s = 4 ∨ s = 5 ∨ s = 15 ∨ s = 19 ∨ s = 21 ∨ s = 22 ∨ s = 23 ∨ s = 25 then 1 else 0
set_option maxHeartbeats 4000000 in
set_option maxRecDepth 100000 in
theorem rtakes_any (s : Int) (w : World) : Calls Tryd.prog 76 #[.int .i64 s] w fun e w' => e = .returned (.int .i64 (takesN s)) ∧ w = w' := by
  go_enter Tryd.func76, Tryd.ntmps76
  go_wp2
  all_goals (go_ret; refine ⟨qret ?_, rfl⟩; unfold takesN; first | (subst_vars; rfl) | (simp_all; done) | (simp_all; omega))

def LoopRel (w : World) (top : Nat) (i : Value) (wr : World) : Prop := ∃ j : Nat, i = .int .i64 j ∧ j ≤ top ∧ Below w.heap.size w wr

set_option maxHeartbeats 8000000 in
set_option maxRecDepth 100000 in
/-- The document's check of a program, where it is fine. -/
theorem rcheck9_ok (SA : Option Addr) (SC : Nat) (l : List SymD) (Ca : Option Addr) (Cc : Nat) (consts : List Int) (Fa : Option Addr) (Fc : Nat) (funcs : List (List Int)) (Fv : Nat → Option Addr) (Fl : Nat → Nat) (w : World)
    (h : ImgAt w SA SC l Ca Cc consts Fa Fc funcs Fv Fl) (hg : GoodSyms l) (hk : consts.length ≤ 16) (hkw : ∀ x ∈ consts, wrapK 5 x = x) (hf : 1 ≤ funcs.length ∧ funcs.length ≤ 4) (hfl : ∀ b ∈ funcs, b.length ≤ 120) :
    Calls Tryd.prog 44 #[.agg #[.slice SA l.length SC, .slice Ca consts.length Cc, .slice Fa funcs.length Fc]] w fun e w' => e = .returned (.int .i64 0) ∧ Below w.heap.size w w' := by
  have C8 := Lib.hid (fun u (hu : Syms u u.heap.size SA l.length l) => rcheck8_ok SA l.length SC l u hu h.sc.1 h.sc.2 hg)
  have H := Lib.hid h
  have HKW := Lib.hid hkw
  have HFL := Lib.hid hfl
  have hk1 : decide ((16 : Int) < consts.length) = false := decide_eq_false (by omega)
  have hf1 : decide ((funcs.length : Int) < 1) = false := decide_eq_false (by omega)
  have hf2 : decide ((4 : Int) < funcs.length) = false := decide_eq_false (by omega)
  have hcI : (consts.length : Int) ≤ Cc := by have := h.cc.1; omega
  have hfI : (funcs.length : Int) ≤ Fc := by have := h.fc.1; omega
  have hB1 := Lib.hid (show Below w.heap.size w (w.alloc (.cells #[.slice SA l.length SC, .slice Ca consts.length Cc, .slice Fa funcs.length Fc] 29)) from (Below.refl _ w).alloc (Nat.le_refl _) _)
  clear h hg hkw hfl
  go_enter Tryd.func44, Tryd.ntmps44
  go_wp2_with fail
  refine (C8.out _ (H.out.below hB1.out).syms).mono ?_
  rintro e w1 ⟨rfl, hb1⟩
  have k0 : w1.cell? ⟨w.heap.size, 0, none⟩ = some (.slice SA l.length SC) := (dcell hb1 (by simp) 0).trans (by go_simp)
  have k1 : w1.cell? ⟨w.heap.size, 1, none⟩ = some (.slice Ca consts.length Cc) := (dcell hb1 (by simp) 1).trans (by go_simp)
  have k2 : w1.cell? ⟨w.heap.size, 2, none⟩ = some (.slice Fa funcs.length Fc) := (dcell hb1 (by simp) 2).trans (by go_simp)
  have hsz : w.heap.size < w1.heap.size := by have := hb1.size; simp at this; omega
  have HB1 := Lib.hid (show Below w.heap.size w w1 from hB1.out.trans (hb1.mono (by simp)))
  have HI := Lib.hid (H.out.below HB1.out)
  clear hb1
  go_wp2_with fail
  go_loopw [4] (fun i wr => LoopRel w1 consts.length i wr) (fun i _ => consts.length - (intOf i).toNat)
  case atStart => exact ⟨0, rfl, Nat.zero_le _, Below.refl _ _⟩
  case round =>
    obtain ⟨j, rfl, hj, hb⟩ := hrel
    have HB := Lib.hid hb
    have q1 := (dcell hb hsz 1).trans k1
    have q2 := (dcell hb hsz 2).trans k2
    by_cases hjl : j < consts.length
    · have hjl' : (j : Int) < consts.length := by omega
      obtain ⟨x, hx⟩ : ∃ x, consts[j]? = some x := ⟨_, List.getElem?_eq_getElem hjl⟩
      have hwx := HKW.out x (List.mem_of_getElem? hx)
      obtain ⟨cb, co, hC, hcb, hcc⟩ := HI.out.rk.2 (by omega)
      have hxc : wr.cell? ⟨cb, co + j, none⟩ = some (.int .i64 x) := (dcell hb hcb _).trans (hcc j _ (by simp [hx]))
      subst hC
      have WR := Lib.hid (fun u => rwrap_any 5 x u)
      rw [hwx] at WR
      clear hb hx hwx hcc
      go_wp2_with fail
      go_region_with (go_at_call 26; refine (WR.out _).mono ?_; rintro e _ ⟨rfl, rfl⟩)
      all_goals (go_wp2_with fail; go_roundw; (case rel => (refine ⟨j + 1, rfl, by omega, ?_⟩; repeat (first | exact HB.out | refine Below.drew ?_ | refine below_dN _ ?_))); (case measure => (simp [intOf]; omega)))
    · have hjs : j = consts.length := by omega
      subst hjs
      obtain ⟨w2, hw2⟩ : ∃ x : World, x = wr := ⟨_, rfl⟩
      subst hw2
      have hs2 : w.heap.size < w2.heap.size := Nat.lt_of_lt_of_le hsz hb.size
      have HI2 := Lib.hid (HI.out.below hb)
      have HB2 := Lib.hid (HB1.out.trans (hb.mono (Nat.le_of_lt hsz)))
      clear hb k0 k1 k2
      go_wp2_with fail
      go_loopw [5] (fun i wr => LoopRel w2 funcs.length i wr) (fun i _ => funcs.length - (intOf i).toNat)
      case atStart => exact ⟨0, rfl, Nat.zero_le _, Below.refl _ _⟩
      case round =>
        obtain ⟨j, rfl, hj, hb⟩ := hrel
        have HB := Lib.hid hb
        have p2 := (dcell hb hs2 2).trans q2
        by_cases hjl : j < funcs.length
        · have hjl' : (j : Int) < funcs.length := by omega
          obtain ⟨b, hbx⟩ : ∃ b, funcs[j]? = some b := ⟨_, List.getElem?_eq_getElem hjl⟩
          have hb120 := HFL.out b (List.mem_of_getElem? hbx)
          have hl1 : decide ((120 : Int) < b.length) = false := decide_eq_false (by omega)
          obtain ⟨cb, co, hC, hcb, hcc⟩ := HI2.out.rf.2 (by omega)
          have hxc : wr.cell? ⟨cb, co + j, none⟩ = some (.slice (Fv j) b.length (Fl j)) := (dcell hb hcb _).trans (hcc j _ (by rw [List.getElem?_map, List.getElem?_range hjl]; simp [List.getD_eq_getElem?_getD, hbx]))
          subst hC
          clear hb hbx hb120 hcc
          go_wp2
          go_roundw
          case rel => exact ⟨j + 1, rfl, by omega, HB.out⟩
          case measure => simp [intOf]; omega
        · have hjs : j = funcs.length := by omega
          subst hjs
          clear hb
          go_wp2
          go_ret
          exact ⟨rfl, HB2.out.trans (HB.out.mono (Nat.le_of_lt (by have := HB1.out.size; omega)))⟩
end Go.Proofs.YtngobbbinacomaaDoor
