/- Chapter 12's pick: all cases. -/
import Derived.Test.YtngobbbinacomaaDoorQ21
import Derived.Test.YtngobbbinacomaaDoorQ22
import Derived.Deep.QuietTactic
import Derived.BigQuiet
namespace Go.Proofs.YtngobbbinacomaaDoor
open Go.RowKit Go.Proofs.YtngobbbinacomaaDoor.c11 Go.Proofs.YtngobbbinacomaaDoor.c10
set_option linter.unusedVariables false
set_option linter.unusedSimpArgs false
attribute [local go_sem ↓] Go.wp_at_zero Go.wp_at_succ
theorem pick_any (A : Option Addr) (c : Nat) (cells : List CellD) (n : Int) (S : Option Addr) (cs : Nat) (st : List Int) (funcs : Nat) (at_ : Nat) (P : Option Addr) (cp : Nat) (sp : List (Nat × List Int)) (w : World) (hn : I64 n) (hr : Row w w.heap.size 6 A cells.length (cellRow cells)) (hc : cells.length ≤ c) (hcl : 0 < cells.length ∧ cells.length ≤ 200)
    (hs : Row w w.heap.size 1 S st.length (st.map (Value.int .i64))) (hsc : st.length ≤ cs) (hs8 : st.length ≤ 8) (hsk : ∀ x ∈ st, 1 ≤ x ∧ x ≤ 6) (hf : funcs ≤ 2) (hat : at_ < 100) (hp : SpotsAt w w.heap.size P sp) (hpc : sp.length ≤ cp) (hpl : sp.length ≤ 100) (hpa : ∀ x ∈ sp, x.1 < 200 ∧ x.2.length ≤ 8) :
    Calls Tryd.prog 48 #[.slice A cells.length c, .int .i64 n, .slice S st.length cs, .int .i64 funcs, .int .i64 at_, .slice P sp.length cp] w (PickBack w cells st funcs at_ sp) := by
  rcases (show n % 16 = 0 ∨ n % 16 = 1 ∨ n % 16 = 2 ∨ n % 16 = 3 ∨ n % 16 = 4 ∨ n % 16 = 5 ∨ n % 16 = 6 ∨ n % 16 = 7 ∨ n % 16 = 8 ∨ n % 16 = 9 ∨ n % 16 = 10 ∨ n % 16 = 11 ∨ n % 16 = 12 ∨ n % 16 = 13 ∨ n % 16 = 14 ∨ n % 16 = 15 by omega) with h | h | h | h | h | h | h | h | h | h | h | h | h | h | h | h
  · exact pick_0 A c cells n S cs st funcs at_ P cp sp w hn hr hc hcl hs hsc hs8 hsk hf hat hp hpc hpl hpa h
  · exact pick_1 A c cells n S cs st funcs at_ P cp sp w hn hr hc hcl hs hsc hs8 hsk hf hat hp hpc hpl hpa h
  · exact pick_2 A c cells n S cs st funcs at_ P cp sp w hn hr hc hcl hs hsc hs8 hsk hf hat hp hpc hpl hpa h
  · exact pick_3 A c cells n S cs st funcs at_ P cp sp w hn hr hc hcl hs hsc hs8 hsk hf hat hp hpc hpl hpa h
  · exact pick_4 A c cells n S cs st funcs at_ P cp sp w hn hr hc hcl hs hsc hs8 hsk hf hat hp hpc hpl hpa h
  · exact pick_5 A c cells n S cs st funcs at_ P cp sp w hn hr hc hcl hs hsc hs8 hsk hf hat hp hpc hpl hpa h
  · exact pick_6 A c cells n S cs st funcs at_ P cp sp w hn hr hc hcl hs hsc hs8 hsk hf hat hp hpc hpl hpa h
  · exact pick_7 A c cells n S cs st funcs at_ P cp sp w hn hr hc hcl hs hsc hs8 hsk hf hat hp hpc hpl hpa h
  · exact pick_8 A c cells n S cs st funcs at_ P cp sp w hn hr hc hcl hs hsc hs8 hsk hf hat hp hpc hpl hpa h
  · exact pick_9 A c cells n S cs st funcs at_ P cp sp w hn hr hc hcl hs hsc hs8 hsk hf hat hp hpc hpl hpa h
  · exact pick_10 A c cells n S cs st funcs at_ P cp sp w hn hr hc hcl hs hsc hs8 hsk hf hat hp hpc hpl hpa h
  · exact pick_11 A c cells n S cs st funcs at_ P cp sp w hn hr hc hcl hs hsc hs8 hsk hf hat hp hpc hpl hpa h
  · exact pick_12 A c cells n S cs st funcs at_ P cp sp w hn hr hc hcl hs hsc hs8 hsk hf hat hp hpc hpl hpa h
  · exact pick_13 A c cells n S cs st funcs at_ P cp sp w hn hr hc hcl hs hsc hs8 hsk hf hat hp hpc hpl hpa h
  · exact pick_14 A c cells n S cs st funcs at_ P cp sp w hn hr hc hcl hs hsc hs8 hsk hf hat hp hpc hpl hpa h
  · exact pick_15 A c cells n S cs st funcs at_ P cp sp w hn hr hc hcl hs hsc hs8 hsk hf hat hp hpc hpl hpa h
end Go.Proofs.YtngobbbinacomaaDoor
