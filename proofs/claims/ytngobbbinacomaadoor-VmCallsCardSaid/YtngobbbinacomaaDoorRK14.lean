/- The document's chapter 12: Image, where it is fine. -/
import Derived.Test.YtngobbbinacomaaDoorRJ14
import Derived.Test.YtngobbbinacomaaDoorRF8
namespace Go.Proofs.YtngobbbinacomaaDoor
open Go.RowKit Go.Proofs.YtngobbbinacomaaDoor.c11 Go.Proofs.YtngobbbinacomaaDoor.c10
set_option linter.unusedVariables false
set_option linter.unusedSimpArgs false
attribute [local go_sem ↓] Go.wp_at_zero Go.wp_at_succ

set_option maxHeartbeats 8000000 in
set_option maxRecDepth 100000 in
/-- The document's verifying of a program, where it is fine. -/
theorem rimage_ok (SA : Option Addr) (SC : Nat) (l : List SymD) (Ca : Option Addr) (Cc : Nat) (consts : List Int) (Fa : Option Addr) (Fc : Nat) (funcs : List (List Int)) (Fv : Nat → Option Addr) (Fl : Nat → Nat) (w : World)
    (h : ImgAt w SA SC l Ca Cc consts Fa Fc funcs Fv Fl) (hg : GoodSyms l) (hln : l.length ≤ 12) (hlz : ∀ s ∈ l, s.size ≤ 64) (hk : consts.length ≤ 16) (hkw : ∀ x ∈ consts, wrapK 5 x = x) (hf : 1 ≤ funcs.length ∧ funcs.length ≤ 4) (hfl : ∀ b ∈ funcs, b.length ≤ 120)
    (hF : ∀ (k : Nat) (b : List Int), funcs[k]? = some b → (opsL b).2 = 0 ∧ ∃ T, Cert consts.length funcs.length (cellsOf l) (opsL b).1 T)
    (hC : ∀ u, ImgAt u SA SC l Ca Cc consts Fa Fc funcs Fv Fl → Calls Tryd.prog 46 #[.agg #[.slice SA l.length SC, .slice Ca consts.length Cc, .slice Fa funcs.length Fc]] u fun e w' => (∃ v : Value, e = .returned (.tuple #[v, .int .i64 0])) ∧ Below u.heap.size u w') :
    Calls Tryd.prog 28 #[.agg #[.slice SA l.length SC, .slice Ca consts.length Cc, .slice Fa funcs.length Fc]] w fun e w' => e = .returned (.int .i64 0) ∧ Below w.heap.size w w' := by
  have C9 := Lib.hid (fun u (hu : ImgAt u SA SC l Ca Cc consts Fa Fc funcs Fv Fl) => rcheck9_ok SA SC l Ca Cc consts Fa Fc funcs Fv Fl u hu hg hk hkw hf hfl)
  have CF := Lib.hid (fun u (hu : ImgAt u SA SC l Ca Cc consts Fa Fc funcs Fv Fl) (k : Nat) (b : List Int) (hkb : funcs[k]? = some b) => rfunc_ok SA SC l Ca Cc consts Fa Fc funcs Fv Fl u hu hln hlz k b hkb (hfl b (List.mem_of_getElem? hkb)) (hF k b hkb).1 _ (hF k b hkb).2.choose_spec)
  have H := Lib.hid h
  have CC := Lib.hid hC
  have hfI : (funcs.length : Int) ≤ Fc := by have := h.fc.1; omega
  have hB1 := Lib.hid (show Below w.heap.size w (w.alloc (.cells #[.slice SA l.length SC, .slice Ca consts.length Cc, .slice Fa funcs.length Fc] 29)) from (Below.refl _ w).alloc (Nat.le_refl _) _)
  clear h hg hkw hfl hF hC hlz
  go_enter Tryd.func28, Tryd.ntmps28
  go_wp2_with fail
  refine (C9.out _ (H.out.below hB1.out)).mono ?_
  rintro e w1 ⟨rfl, hb1⟩
  have k0 : w1.cell? ⟨w.heap.size, 0, none⟩ = some (.slice SA l.length SC) := (dcell hb1 (by simp) 0).trans (by go_simp)
  have k1 : w1.cell? ⟨w.heap.size, 1, none⟩ = some (.slice Ca consts.length Cc) := (dcell hb1 (by simp) 1).trans (by go_simp)
  have k2 : w1.cell? ⟨w.heap.size, 2, none⟩ = some (.slice Fa funcs.length Fc) := (dcell hb1 (by simp) 2).trans (by go_simp)
  have hsz : w.heap.size < w1.heap.size := by have := hb1.size; simp at this; omega
  have HB1 := Lib.hid (show Below w.heap.size w w1 from hB1.out.trans (hb1.mono (by simp)))
  have HI := Lib.hid (H.out.below HB1.out)
  clear hb1
  go_wp2_with fail
  go_loopw [4] (fun i wr => LoopRel w1 funcs.length i wr) (fun i _ => funcs.length - (intOf i).toNat)
  case atStart => exact ⟨0, rfl, Nat.zero_le _, Below.refl _ _⟩
  case round =>
    obtain ⟨j, rfl, hj, hb⟩ := hrel
    have HB := Lib.hid hb
    have q0 := (dcell hb hsz 0).trans k0
    have q1 := (dcell hb hsz 1).trans k1
    have q2 := (dcell hb hsz 2).trans k2
    have HI2 := Lib.hid (HI.out.below hb)
    by_cases hjl : j < funcs.length
    · have hjl' : (j : Int) < funcs.length := by omega
      obtain ⟨b, hbx⟩ : ∃ b, funcs[j]? = some b := ⟨_, List.getElem?_eq_getElem hjl⟩
      have CFJ := Lib.hid (fun u (hu : ImgAt u SA SC l Ca Cc consts Fa Fc funcs Fv Fl) => CF.out u hu j b hbx)
      clear hb hbx
      go_wp2_with fail
      refine (CFJ.out _ HI2.out).mono ?_
      rintro e w3 ⟨⟨hi, rfl⟩, hb3⟩
      have HB3 := Lib.hid (HB.out.trans (hb3.mono HB.out.size))
      clear hb3
      go_wp2
      go_roundw
      case rel => exact ⟨j + 1, rfl, by omega, HB3.out⟩
      case measure => simp [intOf]; omega
    · have hjs : j = funcs.length := by omega
      subst hjs
      clear hb
      go_wp2_with fail
      refine (CC.out _ HI2.out).mono ?_
      rintro e w3 ⟨⟨v, rfl⟩, hb3⟩
      have HB3 := Lib.hid (HB.out.trans (hb3.mono HB.out.size))
      clear hb3
      go_wp2
      go_ret
      exact ⟨rfl, HB1.out.trans (HB3.out.mono (Nat.le_of_lt hsz))⟩
end Go.Proofs.YtngobbbinacomaaDoor
