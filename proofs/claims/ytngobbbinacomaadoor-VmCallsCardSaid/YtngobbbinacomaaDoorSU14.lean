/- Chapter 14: VmCalls' image is fine; its run. -/
import Derived.Test.YtngobbbinacomaaDoorST14
namespace Go.Proofs.YtngobbbinacomaaDoor
open Go.RowKit Go.Proofs.YtngobbbinacomaaDoor.c11 Go.Proofs.YtngobbbinacomaaDoor.c10 Go.Proofs.YtngobbbinacomaaDoor.c13
set_option linter.unusedVariables false
set_option linter.unusedSimpArgs false

theorem clF_small (d : Nat) (hd : d = 1 ∨ d = 2 ∨ d = 3 ∨ d = 4) : (∀ b ∈ clF d, ∀ x ∈ b, 0 ≤ x ∧ x < 256) ∧ ∀ b ∈ clF d, b.length ≤ 120 := by
  rcases hd with rfl | rfl | rfl | rfl <;> exact ⟨by decide, by decide⟩
theorem cl_check {w : World} {SA : Option Addr} {SC : Nat} {Ca : Option Addr} {Cc f Fc d : Nat} {vs : List Value} (hd : d = 1 ∨ d = 2 ∨ d = 3 ∨ d = 4) (hs : Syms w w.heap.size SA 1 [sClx]) (hsc : 1 ≤ SC ∧ SC ≤ 9223372036854775807)
    (hk : Row w w.heap.size 1 Ca 1 (([1] : List Int).map (Value.int .i64))) (hkc : 1 ≤ Cc ∧ Cc ≤ 9223372036854775807) (h : FuncsAt w f (clF d) vs) (hfc : d ≤ Fc ∧ Fc ≤ 9223372036854775807) :
    Calls Tryd.prog 28 #[.agg #[.slice SA 1 SC, .slice Ca 1 Cc, .slice (some ⟨f, 0, none⟩) d Fc]] w fun e w' => e = .returned (.int .i64 0) ∧ Below w.heap.size w w' := by
  have hl := clF_len d hd
  have hsm := clF_small d hd
  have hd4 : 1 ≤ d ∧ d ≤ 4 := by omega
  have hsz : ∀ s ∈ [sClx], s.size ≤ 64 := by intro s hs; simp at hs; subst hs; decide
  have hkw : ∀ x ∈ ([1] : List Int), wrapK 5 x = x := by
    intro x hx; simp at hx; subst hx; simp [wrapK]; unfold wrap32; omega
  have key := rimage_ok SA SC [sClx] Ca Cc [1] (some ⟨f, 0, none⟩) Fc (clF d) (fvOf vs) (flOf vs) w (imgAtF hs hsc hk hkc h (by rw [hl]; exact hfc) hsm.1) sClx_good (by decide) hsz (by decide) hkw (by rw [hl]; exact hd4) hsm.2 (fun k b hb => by rw [hl]; exact clF_cert d hd k b hb)
    (fun u hu => rcalls_deep _ _ _ _ _ _ _ _ _ _ _ u hu (by rw [hl]; exact hd4) hsm.2 (fun k => (d : Int) - k) (fun k hk => by rw [hl] at hk ⊢; omega) (fun k b hb => clF_calls d hd k b hb))
  rw [hl] at key
  exact key
theorem cl_vmrun {w : World} {SA : Option Addr} {SC : Nat} {Ca : Option Addr} {Cc f Fc d : Nat} {vs : List Value} (hd : d = 1 ∨ d = 2 ∨ d = 3 ∨ d = 4) (hs : Syms w w.heap.size SA 1 [sClx]) (hsc : 1 ≤ SC ∧ SC ≤ 9223372036854775807)
    (hk : Row w w.heap.size 1 Ca 1 (([1] : List Int).map (Value.int .i64))) (hkc : 1 ≤ Cc ∧ Cc ≤ 9223372036854775807) (h : FuncsAt w f (clF d) vs) (hfc : d ≤ Fc ∧ Fc ≤ 9223372036854775807) (x : Int) (hx : wrapK 5 x = x)
    (CA : Option Addr) (CC : Nat) (hz : Row w w.heap.size 1 CA 1 (([x] : List Int).map (Value.int .i64))) (hzc : 1 ≤ CC) :
    Calls Tryd.prog 22 #[.agg #[.slice SA 1 SC, .slice Ca 1 Cc, .slice (some ⟨f, 0, none⟩) d Fc], .slice CA 1 CC, .agg #[.int .i64 0, .int .i64 0, .int .i64 0, .int .i64 8], .agg #[.int .i64 0, .int .i64 0, .int .i64 0, .int .i64 0], .int .i64 0, .int .i64 100] w fun e w' =>
      Below w.heap.size w w' ∧ ∃ v, e = .returned (.tuple #[v, .agg #[.int .i64 0, .int .i64 0, .int .i64 0, .int .i64 8], .int .i64 ((8 * d - 1 : Nat) : Int), .int .i64 0]) ∧ w'.ownsRow w.heap.size 3 1 v 1 (([wrapK 5 (x + d)] : List Int).map (Value.int .i64)) := by
  have hl := clF_len d hd
  have hsm := clF_small d hd
  have hlen : ∀ c ∈ cellsOf [sClx], c.len ≤ 1000000 := by
    intro c hc
    have h : (cellsOf [sClx]).all (fun c => decide (c.len ≤ 1000000)) = true := by kernel_rfl
    exact of_decide_eq_true (List.all_eq_true.1 h c hc)
  have hrun := run_any (envF SA SC [sClx] [1] Ca Cc (clF d) vs f Fc 0 0 0 8 0 none 0) SA SC [sClx] w (imgF hs (by decide) hsc hk hkc h (by rw [hl]; exact hfc) hsm.1 hsm.2 0 0 0 8 0) hlen (.inr fun M K S a h0 h1 => blocks_all M K S a h0 h1) CA 1 CC [x] hz (by decide) hzc 0 0 0 0 100 (by decide)
  rw [show (envF SA SC [sClx] [1] Ca Cc (clF d) vs f Fc 0 0 0 8 0 none 0).funcs.length = d from hl] at hrun
  refine hrun.mono ?_
  rintro e w' ⟨hbl, La, Lc, hh⟩
  have hr := cl_run (E := atLay (envF SA SC [sClx] [1] Ca Cc (clF d) vs f Fc 0 0 0 8 0 none 0) La Lc) ⟨rfl, rfl, by show (cellD (cellsOf [sClx]) 0).kind = 5; kernel_rfl⟩ d hd rfl x hx
  have hc : callP (atLay (envF SA SC [sClx] [1] Ca Cc (clF d) vs f Fc 0 0 0 8 0 none 0) La Lc) ((max (100 : Int) 0).toNat + 1) ⟨[x], 0, 0, 0, 0, (max (100 : Int) 0).toNat, 0, []⟩ 0 = (⟨[wrapK 5 (x + d)], 0, 0, 0, 8, 100 - (8 * d - 1), 8 * d - 1, []⟩, 0) := by
    unfold callP
    rw [if_pos (by show (0 : Int) < (clF d).length; rw [hl]; omega)]
    have e1 : ((atLay (envF SA SC [sClx] [1] Ca Cc (clF d) vs f Fc 0 0 0 8 0 none 0) La Lc).funcs.getD (0 : Int).toNat []) = (clF d).getD 0 [] := rfl
    have e2 : (max (100 : Int) 0).toNat = 100 := rfl
    rw [e1, e2, hr]
  simp only [hc] at hh
  refine ⟨hbl, ?_⟩
  rcases hh with ⟨_, v, he, hv⟩ | ⟨h1, _⟩
  · exact ⟨v, he, hv⟩
  · exact absurd rfl h1
end Go.Proofs.YtngobbbinacomaaDoor
