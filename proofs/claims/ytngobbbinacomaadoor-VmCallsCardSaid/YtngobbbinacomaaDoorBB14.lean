/- Chapter 14: runs of one function over variables. -/
import Derived.Test.YtngobbbinacomaaDoorBA14
import Derived.Test.YtngobbbinacomaaDoorU14
import Derived.Test.YtngobbbinacomaaDoorRC8
import Derived.KernelRfl
namespace Go.Proofs.YtngobbbinacomaaDoor
open Go.RowKit Go.Proofs.YtngobbbinacomaaDoor.c11 Go.Proofs.YtngobbbinacomaaDoor.c10 Go.Proofs.YtngobbbinacomaaDoor.c13
set_option linter.unusedVariables false
set_option linter.unusedSimpArgs false
attribute [local go_sem ↓] Go.wp_at_zero Go.wp_at_succ

def envS (SA : Option Addr) (SC : Nat) (l : List SymD) (consts : List Int) (Ca : Option Addr) (Cc : Nat) (b : List Int) (f g : Nat) (i0 i1 i2 i3 now : Int) (La : Option Addr) (Lc : Nat) : Env :=
  ⟨.slice SA l.length SC, consts, Ca, Cc, [b], fun _ => some ⟨g, 0, none⟩, fun _ => b.length, some ⟨f, 0, none⟩, 1, cellsOf l, La, Lc, i0, i1, i2, i3, now⟩
theorem imgS {w : World} {SA : Option Addr} {SC : Nat} {l : List SymD} {consts : List Int} {Ca : Option Addr} {Cc f g : Nat} {b : List Int} (hs : Syms w w.heap.size SA l.length l) (hn : l.length ≤ 10000) (hsc : l.length ≤ SC ∧ SC ≤ 9223372036854775807)
    (hk : Row w w.heap.size 1 Ca consts.length (consts.map (Value.int .i64))) (hkc : consts.length ≤ Cc ∧ Cc ≤ 9223372036854775807) (h : CodeIn w w.heap.size f g b) (hb : ∀ x ∈ b, 0 ≤ x ∧ x < 256) (hl : b.length ≤ 4611686018427387904) (i0 i1 i2 i3 now : Int) :
    Img w (envS SA SC l consts Ca Cc b f g i0 i1 i2 i3 now none 0) SA SC l := by
  refine ⟨rfl, hs, hn, hsc, rfl, hk.rowX (fun b h => h), hkc, ⟨by simp [envS], fun _ => ⟨f, 0, rfl, h.lf, ?_⟩⟩, ⟨Nat.le_refl _, by simp [envS]⟩, ?_⟩
  · intro j u hu
    simp [envS] at hu
    cases j with
    | zero => simp at hu; subst hu; simpa using h.cf
    | succ j => simp at hu
  · intro i c hi
    cases i with
    | succ i => simp [envS] at hi
    | zero =>
      simp [envS] at hi
      subst hi
      refine ⟨⟨by simp, fun _ => ⟨g, 0, rfl, h.lg, fun j u hu => ?_⟩⟩, Nat.le_refl _, by simp only [envS]; omega, hl, hb⟩
      have := h.cg j u hu
      simpa using this

/-- A run of one function over variables. -/
theorem runS {w : World} {SA : Option Addr} {SC : Nat} {l : List SymD} {consts : List Int} {Ca : Option Addr} {Cc f g : Nat} {b : List Int} (hs : Syms w w.heap.size SA l.length l) (hn : l.length ≤ 10000) (hsc : l.length ≤ SC ∧ SC ≤ 9223372036854775807)
    (hk : Row w w.heap.size 1 Ca consts.length (consts.map (Value.int .i64))) (hkc : consts.length ≤ Cc ∧ Cc ≤ 9223372036854775807) (h : CodeIn w w.heap.size f g b) (hb : ∀ x ∈ b, 0 ≤ x ∧ x < 256) (hl : b.length ≤ 4611686018427387904) (hlen : ∀ c ∈ cellsOf l, c.len ≤ 1000000)
    (CA : Option Addr) (n CC : Nat) (zs : List Int) (hz : Row w w.heap.size 1 CA n (zs.map (Value.int .i64))) (hzn : n ≤ 1000000) (hzc : n ≤ CC) (i0 i1 i2 i3 o0 o1 o2 o3 now : Int) (bud : Nat) (hbud : bud ≤ 1000000)
    {R : St} {x : Int} (hR : ∀ La Lc, execP (envS SA SC l consts Ca Cc b f g i0 i1 i2 i3 now La Lc) (bud + 1) b 0 ⟨zs, o0, o1, o2, o3, bud, 0, []⟩ = (R, x)) :
    Calls Tryd.prog 22 #[.agg #[.slice SA l.length SC, .slice Ca consts.length Cc, .slice (some ⟨f, 0, none⟩) 1 1], .slice CA n CC, .agg #[.int .i64 i0, .int .i64 i1, .int .i64 i2, .int .i64 i3], .agg #[.int .i64 o0, .int .i64 o1, .int .i64 o2, .int .i64 o3], .int .i64 now, .int .i64 bud] w fun e w' =>
      Below w.heap.size w w' ∧ (x = 0 → ∃ v, e = .returned (.tuple #[v, .agg #[.int .i64 R.o0, .int .i64 R.o1, .int .i64 R.o2, .int .i64 R.o3], .int .i64 R.used, .int .i64 0]) ∧ w'.ownsRow w.heap.size 3 1 v R.cells.length (R.cells.map (Value.int .i64))) ∧
        (x ≠ 0 → e = .returned (.tuple #[.slice none 0 0, .agg #[.int .i64 0, .int .i64 0, .int .i64 0, .int .i64 0], .int .i64 R.used, .int .i64 x])) := by
  have hmm : (max (bud : Int) 0).toNat = bud := by omega
  have hrun := run_any (envS SA SC l consts Ca Cc b f g i0 i1 i2 i3 now none 0) SA SC l w (imgS hs hn hsc hk hkc h hb hl i0 i1 i2 i3 now) (fun c hc => hlen c hc) (.inr fun M K S a h0 h1 => blocks_all M K S a h0 h1) CA n CC zs hz hzn hzc o0 o1 o2 o3 bud (by omega)
  rw [hmm] at hrun
  refine hrun.mono ?_
  rintro e w' ⟨hbl, La, Lc, hh⟩
  have hc : callP (atLay (envS SA SC l consts Ca Cc b f g i0 i1 i2 i3 now none 0) La Lc) (bud + 1) ⟨zs, o0, o1, o2, o3, bud, 0, []⟩ 0 = ({ R with stk := [] }, x) := by
    unfold callP
    rw [if_pos (by simp [atLay, envS])]
    have := hR La Lc
    rw [show ((atLay (envS SA SC l consts Ca Cc b f g i0 i1 i2 i3 now none 0) La Lc).funcs.getD (0 : Int).toNat []) = b from rfl, show atLay (envS SA SC l consts Ca Cc b f g i0 i1 i2 i3 now none 0) La Lc = envS SA SC l consts Ca Cc b f g i0 i1 i2 i3 now La Lc from rfl, this]
  simp only [hc] at hh
  refine ⟨hbl, fun h0 => ?_, fun h0 => ?_⟩
  · rcases hh with ⟨_, v, he, hv⟩ | ⟨h1, _⟩
    · exact ⟨v, he, hv⟩
    · exact absurd h0 h1
  · rcases hh with ⟨h1, _⟩ | ⟨_, he⟩
    · exact absurd h1 h0
    · exact he

theorem symsP_len (b : Bool) : ∀ c ∈ cellsOf (symsP b), c.len ≤ 1000000 := by
  intro c hc
  have h : (cellsOf (symsP b)).all (fun c => decide (c.len ≤ 1000000)) = true := by cases b <;> kernel_rfl
  exact of_decide_eq_true (List.all_eq_true.1 h c hc)

/-- The cells of VmBlocks, before and behind. -/
def wasL : List Int := [0, 1, 5, -3, 0, 0, 0, 0, 0, 1, 50, 0, 0, 0, 0, 1, 0, 3, 0, 0, 0]
def beL (at_ : Nat) (now : Int) : List Int := if at_ = 9 then [0, 1, 5, -3, 0, 0, 0, 0, 0, 1, 50, 0, 0, now, 1, 1, 0, 3, 0, 0, 0] else [0, 1, 5, -3, 0, 0, 0, 0, 0, 1, 50, 0, 0, 0, 0, 1, 0, 3, 0, 1, 1]
def blkB (at_ : Nat) : List Int := [27, at_, 0]
theorem begin_true : ((cellsOf (symsP true)).map CellD.init) = [0, 1, 5, -3, 0, 0, 0, 0, 0, 0, 50, 0, 0, 0, 0, 0, 0, 3, 0, 0, 0] := by kernel_rfl
theorem blk_run (SA Ca La : Option Addr) (SC Cc Lc f g : Nat) (at_ : Nat) (h : at_ = 9 ∨ at_ = 15) (now : Int) :
    execP (envS SA SC (symsP true) [] Ca Cc (blkB at_) f g 0 0 0 0 now La Lc) 10 (blkB at_) 0 ⟨wasL, 0, 0, 0, 0, 9, 0, []⟩ = (⟨beL at_ now, 0, 0, 0, 0, 7, 2, []⟩, 0) := by
  rcases h with rfl | rfl
  · have r0 : rdL (blkB 9) 0 = ((0, 2, 27, 9, 0), 0) := rfl
    have r2 : rdL (blkB 9) 2 = ((2, 3, 0, 0, 0), 0) := rfl
    have hd : doP (envS SA SC (symsP true) [] Ca Cc (blkB 9) f g 0 0 0 0 now La Lc) ⟨wasL, 0, 0, 0, 0, 8, 1, []⟩ 27 9 0 = (⟨beL 9 now, 0, 0, 0, 0, 8, 1, []⟩, 0) := by
      have hb : (cellD (cellsOf (symsP true)) 9).block = 9 := by kernel_rfl
      have hq : tonQ 1 50 0 0 now = 0 := by simp [tonQ, tonD, tonT, bit]
      have he : tonE 1 50 0 0 now = 0 := by simp [tonE, tonD, tonT]; decide
      have ht : tonT 1 0 0 now = now := by simp [tonT]
      have hr : tonR 1 0 = 1 := by simp [tonR]
      simp only [doP, memoryP, blockP, envS]
      simp [isAt, wasL, hb, blockC, hq, he, ht, hr, beL]
    rw [ex_op r0 (by simp) (by decide) hd, if_pos rfl, ex_end r2 (by simp)]
    rfl
  · have r0 : rdL (blkB 15) 0 = ((0, 2, 27, 15, 0), 0) := rfl
    have r2 : rdL (blkB 15) 2 = ((2, 3, 0, 0, 0), 0) := rfl
    have hd : doP (envS SA SC (symsP true) [] Ca Cc (blkB 15) f g 0 0 0 0 now La Lc) ⟨wasL, 0, 0, 0, 0, 8, 1, []⟩ 27 15 0 = (⟨beL 15 now, 0, 0, 0, 0, 8, 1, []⟩, 0) := by
      have hb : (cellD (cellsOf (symsP true)) 15).block = 10 := by kernel_rfl
      have hv : ctuV 1 0 0 0 = 1 := by decide
      simp only [doP, memoryP, blockP, envS]
      simp [isAt, wasL, hb, blockC, hv, beL, bit]
    rw [ex_op r0 (by simp) (by decide) hd, if_pos rfl, ex_end r2 (by simp)]
    rfl
end Go.Proofs.YtngobbbinacomaaDoor
