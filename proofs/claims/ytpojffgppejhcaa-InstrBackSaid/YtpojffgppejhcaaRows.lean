/-
  No cell of these rows narrows 'for every input' (looked for: loops, veiled, ifaces, maps, wideKeys, modest, calm, conditions, laid).
  DERIVED. THE GIVEN ROWS OF THIS SEAT. 6 by the template 'for every input the law returns true; each argument reads behind the call as it read before'; 0 by the template 'total and deterministic' (their statements: YtpojffgppejhcaaTotals.lean).
  GIVEN WITH THE SEED: the statements are not yours to turn. If you find one false, say at which input.
  Laid BY PROGRAM, IN A SANDBOX (cutbox-rows.mjs): the forced cells as the released guide's own fill.sh prints them over the translation aa5e8fdb57c1b1a6… (all of the seat's roots in one cut). By AI agents, Wed Nov 11 2026. No macro, syntax, notation, axiom, sorry.
-/
import Derived.Test.YtpojffgppejhcaaChecked
import GoSem.Claim
import GoSem.ClaimJoined
import GoSem.ClaimMapViews
import Derived.JoinedTies
import Derived.KernelRfl
namespace Go.Proofs.Ytpojffgppejhcaa
/- THE CELL 'sum', in the pinned program and in every row, IS THE sha256 OF THE DUMP (.gsa) THAT YtpojffgppejhcaaProg.lean LOADS. Nothing in Lean hashes anything: it is a label: what it is worth is what the hold of that sum in a sandbox is worth. -/
noncomputable def Try.pinned : Pinned := { name := "ytpojffgppejhcaa", sum := "aa5e8fdb57c1b1a603f38a60fab9dd5e22ff9a8bdd61f96863cd2217e8469865", checked := Try.checked }
namespace Rows
def none {H : Type} : Left H := { results := [], args := [] }

/-- 'solenoidlaw10.InstrReads': WHATEVER THE INPUT: true; the input reads as it did. -/
def instrReadsSpec : ChangeSpec := { name := "instrReads", fn := fun _ => fun
  | [d1, d2] => { results := [.lit (.bool true)], args := [d1, d2] }
  | _ => none }
def instrReadsRow : OpenClaim := { program := "ytpojffgppejhcaa", sum := "aa5e8fdb57c1b1a603f38a60fab9dd5e22ff9a8bdd61f96863cd2217e8469865", func := "solenoid/solenoidlaw10.InstrReads", spec := "instrReads", apart := false }
def InstrReadsSaid : Prop := instrReadsRow.holds Try.pinned (OpenSpec.ofChange instrReadsSpec)

/-- ITS FALSE NEIGHBOUR: 'it returns false'. Refute it at one input. -/
def instrReadsWrong : ChangeSpec := { name := "instrReads", fn := fun _ => fun
  | [d1, d2] => { results := [.lit (.bool false)], args := [d1, d2] }
  | _ => none }
def InstrReadsWrongFalsely : Prop := instrReadsRow.holds Try.pinned (OpenSpec.ofChange instrReadsWrong)

/-- 'solenoidlaw10.InstrNames': WHATEVER THE INPUT: true; the input reads as it did. -/
def instrNamesSpec : ChangeSpec := { name := "instrNames", fn := fun _ => fun
  | [d] => { results := [.lit (.bool true)], args := [d] }
  | _ => none }
def instrNamesRow : OpenClaim := { program := "ytpojffgppejhcaa", sum := "aa5e8fdb57c1b1a603f38a60fab9dd5e22ff9a8bdd61f96863cd2217e8469865", func := "solenoid/solenoidlaw10.InstrNames", spec := "instrNames", apart := false }
def InstrNamesSaid : Prop := instrNamesRow.holds Try.pinned (OpenSpec.ofChange instrNamesSpec)

/-- ITS FALSE NEIGHBOUR: 'it returns false'. Refute it at one input. -/
def instrNamesWrong : ChangeSpec := { name := "instrNames", fn := fun _ => fun
  | [d] => { results := [.lit (.bool false)], args := [d] }
  | _ => none }
def InstrNamesWrongFalsely : Prop := instrNamesRow.holds Try.pinned (OpenSpec.ofChange instrNamesWrong)

/-- 'solenoidlaw10.InstrPlaces': WHATEVER THE INPUT: true; the input reads as it did. -/
def instrPlacesSpec : ChangeSpec := { name := "instrPlaces", fn := fun _ => fun
  | [d1, d2] => { results := [.lit (.bool true)], args := [d1, d2] }
  | _ => none }
def instrPlacesRow : OpenClaim := { program := "ytpojffgppejhcaa", sum := "aa5e8fdb57c1b1a603f38a60fab9dd5e22ff9a8bdd61f96863cd2217e8469865", func := "solenoid/solenoidlaw10.InstrPlaces", spec := "instrPlaces", apart := false }
def InstrPlacesSaid : Prop := instrPlacesRow.holds Try.pinned (OpenSpec.ofChange instrPlacesSpec)

/-- ITS FALSE NEIGHBOUR: 'it returns false'. Refute it at one input. -/
def instrPlacesWrong : ChangeSpec := { name := "instrPlaces", fn := fun _ => fun
  | [d1, d2] => { results := [.lit (.bool false)], args := [d1, d2] }
  | _ => none }
def InstrPlacesWrongFalsely : Prop := instrPlacesRow.holds Try.pinned (OpenSpec.ofChange instrPlacesWrong)

/-- 'solenoidlaw10.InstrBack': WHATEVER THE INPUT: true; the input reads as it did. -/
def instrBackSpec : ChangeSpec := { name := "instrBack", fn := fun _ => fun
  | [d1, d2, d3] => { results := [.lit (.bool true)], args := [d1, d2, d3] }
  | _ => none }
def instrBackRow : OpenClaim := { program := "ytpojffgppejhcaa", sum := "aa5e8fdb57c1b1a603f38a60fab9dd5e22ff9a8bdd61f96863cd2217e8469865", func := "solenoid/solenoidlaw10.InstrBack", spec := "instrBack", apart := false }
def InstrBackSaid : Prop := instrBackRow.holds Try.pinned (OpenSpec.ofChange instrBackSpec)

/-- ITS FALSE NEIGHBOUR: 'it returns false'. Refute it at one input. -/
def instrBackWrong : ChangeSpec := { name := "instrBack", fn := fun _ => fun
  | [d1, d2, d3] => { results := [.lit (.bool false)], args := [d1, d2, d3] }
  | _ => none }
def InstrBackWrongFalsely : Prop := instrBackRow.holds Try.pinned (OpenSpec.ofChange instrBackWrong)

/-- 'solenoidlaw10.InstrCuts': WHATEVER THE INPUT: true; the input reads as it did. -/
def instrCutsSpec : ChangeSpec := { name := "instrCuts", fn := fun _ => fun
  | [d1, d2, d3] => { results := [.lit (.bool true)], args := [d1, d2, d3] }
  | _ => none }
def instrCutsRow : OpenClaim := { program := "ytpojffgppejhcaa", sum := "aa5e8fdb57c1b1a603f38a60fab9dd5e22ff9a8bdd61f96863cd2217e8469865", func := "solenoid/solenoidlaw10.InstrCuts", spec := "instrCuts", apart := false }
def InstrCutsSaid : Prop := instrCutsRow.holds Try.pinned (OpenSpec.ofChange instrCutsSpec)

/-- ITS FALSE NEIGHBOUR: 'it returns false'. Refute it at one input. -/
def instrCutsWrong : ChangeSpec := { name := "instrCuts", fn := fun _ => fun
  | [d1, d2, d3] => { results := [.lit (.bool false)], args := [d1, d2, d3] }
  | _ => none }
def InstrCutsWrongFalsely : Prop := instrCutsRow.holds Try.pinned (OpenSpec.ofChange instrCutsWrong)

/-- 'solenoidlaw10.InstrSizes': WHATEVER THE INPUT: true; the input reads as it did. -/
def instrSizesSpec : ChangeSpec := { name := "instrSizes", fn := fun _ => fun
  | [d1, d2, d3] => { results := [.lit (.bool true)], args := [d1, d2, d3] }
  | _ => none }
def instrSizesRow : OpenClaim := { program := "ytpojffgppejhcaa", sum := "aa5e8fdb57c1b1a603f38a60fab9dd5e22ff9a8bdd61f96863cd2217e8469865", func := "solenoid/solenoidlaw10.InstrSizes", spec := "instrSizes", apart := false }
def InstrSizesSaid : Prop := instrSizesRow.holds Try.pinned (OpenSpec.ofChange instrSizesSpec)

/-- ITS FALSE NEIGHBOUR: 'it returns false'. Refute it at one input. -/
def instrSizesWrong : ChangeSpec := { name := "instrSizes", fn := fun _ => fun
  | [d1, d2, d3] => { results := [.lit (.bool false)], args := [d1, d2, d3] }
  | _ => none }
def InstrSizesWrongFalsely : Prop := instrSizesRow.holds Try.pinned (OpenSpec.ofChange instrSizesWrong)

/- THE SECOND FORM. 'bulk': how many values and letters a reading holds, each counted each time it is reached (what is shared counts as often as it is met; a slice's spare places count too). A statement '..UptoSaid' is the law's where the arguments, and the package variables that the reading takes, are together of bulk at most 1048576: NARROWER than '..Said'. Prove '..Said' where nothing that the law and all that it calls make is longer than what came in: it says more and counts as full. Else prove '..UptoSaid'. A law counts once. -/
mutual
def uptoBulk {H : Type} : DataW H → Nat
  | .lit (.string bytes) => bytes.length + 1
  | .lit _ => 1
  | .nil => 1
  | .ptr d => uptoBulk d + 1
  | .slice elems spare => uptoBulkAll elems + uptoBulkAll spare + 1
  | .agg parts => uptoBulkAll parts + 1
  | .iface _ d => uptoBulk d + 1
  | .map entries => uptoBulkEntries entries + 1
  | .held _ => 1
def uptoBulkAll {H : Type} : List (DataW H) → Nat
  | [] => 0
  | d :: r => uptoBulk d + uptoBulkAll r
def uptoBulkEntries {H : Type} : List (Lit × DataW H) → Nat
  | [] => 0
  | x :: r => uptoBulkEntry x + uptoBulkEntries r
def uptoBulkEntry {H : Type} : Lit × DataW H → Nat
  | (.string bytes, d) => bytes.length + uptoBulk d + 1
  | (_, d) => uptoBulk d + 1
 end
def uptoSmall : (H : Type) → List (DataW H) → Bool := fun _ ds => decide (uptoBulkAll ds ≤ 1048576)
def OpenSpec.upto (s : _root_.Go.ChangeSpec) : _root_.Go.OpenSpec := { _root_.Go.OpenSpec.ofChange s with cond := some uptoSmall }

/-- 'solenoidlaw10.InstrReads', WHERE WHAT IT READS IS OF BULK AT MOST 1048576: true; the input reads as it did. -/
def instrReadsUptoRow : OpenClaim := { program := "ytpojffgppejhcaa", sum := "aa5e8fdb57c1b1a603f38a60fab9dd5e22ff9a8bdd61f96863cd2217e8469865", func := "solenoid/solenoidlaw10.InstrReads", spec := "instrReads", apart := false, narrowed := true }
def InstrReadsUptoSaid : Prop := instrReadsUptoRow.holds Try.pinned (OpenSpec.upto instrReadsSpec)

/-- 'solenoidlaw10.InstrNames', WHERE WHAT IT READS IS OF BULK AT MOST 1048576: true; the input reads as it did. -/
def instrNamesUptoRow : OpenClaim := { program := "ytpojffgppejhcaa", sum := "aa5e8fdb57c1b1a603f38a60fab9dd5e22ff9a8bdd61f96863cd2217e8469865", func := "solenoid/solenoidlaw10.InstrNames", spec := "instrNames", apart := false, narrowed := true }
def InstrNamesUptoSaid : Prop := instrNamesUptoRow.holds Try.pinned (OpenSpec.upto instrNamesSpec)

/-- 'solenoidlaw10.InstrPlaces', WHERE WHAT IT READS IS OF BULK AT MOST 1048576: true; the input reads as it did. -/
def instrPlacesUptoRow : OpenClaim := { program := "ytpojffgppejhcaa", sum := "aa5e8fdb57c1b1a603f38a60fab9dd5e22ff9a8bdd61f96863cd2217e8469865", func := "solenoid/solenoidlaw10.InstrPlaces", spec := "instrPlaces", apart := false, narrowed := true }
def InstrPlacesUptoSaid : Prop := instrPlacesUptoRow.holds Try.pinned (OpenSpec.upto instrPlacesSpec)

/-- 'solenoidlaw10.InstrBack', WHERE WHAT IT READS IS OF BULK AT MOST 1048576: true; the input reads as it did. -/
def instrBackUptoRow : OpenClaim := { program := "ytpojffgppejhcaa", sum := "aa5e8fdb57c1b1a603f38a60fab9dd5e22ff9a8bdd61f96863cd2217e8469865", func := "solenoid/solenoidlaw10.InstrBack", spec := "instrBack", apart := false, narrowed := true }
def InstrBackUptoSaid : Prop := instrBackUptoRow.holds Try.pinned (OpenSpec.upto instrBackSpec)

/-- 'solenoidlaw10.InstrCuts', WHERE WHAT IT READS IS OF BULK AT MOST 1048576: true; the input reads as it did. -/
def instrCutsUptoRow : OpenClaim := { program := "ytpojffgppejhcaa", sum := "aa5e8fdb57c1b1a603f38a60fab9dd5e22ff9a8bdd61f96863cd2217e8469865", func := "solenoid/solenoidlaw10.InstrCuts", spec := "instrCuts", apart := false, narrowed := true }
def InstrCutsUptoSaid : Prop := instrCutsUptoRow.holds Try.pinned (OpenSpec.upto instrCutsSpec)

/-- 'solenoidlaw10.InstrSizes', WHERE WHAT IT READS IS OF BULK AT MOST 1048576: true; the input reads as it did. -/
def instrSizesUptoRow : OpenClaim := { program := "ytpojffgppejhcaa", sum := "aa5e8fdb57c1b1a603f38a60fab9dd5e22ff9a8bdd61f96863cd2217e8469865", func := "solenoid/solenoidlaw10.InstrSizes", spec := "instrSizes", apart := false, narrowed := true }
def InstrSizesUptoSaid : Prop := instrSizesUptoRow.holds Try.pinned (OpenSpec.upto instrSizesSpec)

end Rows
end Go.Proofs.Ytpojffgppejhcaa
