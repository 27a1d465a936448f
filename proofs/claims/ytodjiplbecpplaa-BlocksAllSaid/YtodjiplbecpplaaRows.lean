/-
  No cell of these rows narrows 'for every input' (looked for: loops, veiled, ifaces, maps, wideKeys, modest, calm, conditions, laid).
  DERIVED. THE GIVEN ROWS OF THIS SEAT. 7 by the template 'for every input the law returns true; each argument reads behind the call as it read before'; 0 by the template 'total and deterministic' (their statements: YtodjiplbecpplaaTotals.lean).
  GIVEN WITH THE SEED: the statements are not yours to turn. If you find one false, say at which input.
  Laid BY PROGRAM, IN A SANDBOX (cutbox-rows.mjs): the forced cells as the released guide's own fill.sh prints them over the translation ddc67f51f3d1995c… (all of the seat's roots in one cut). By AI agents, Wed Nov 11 2026. No macro, syntax, notation, axiom, sorry.
-/
import Derived.Test.YtodjiplbecpplaaChecked
import GoSem.Claim
import GoSem.ClaimJoined
import GoSem.ClaimMapViews
import Derived.JoinedTies
import Derived.KernelRfl
namespace Go.Proofs.Ytodjiplbecpplaa
/- THE CELL 'sum', in the pinned program and in every row, IS THE sha256 OF THE DUMP (.gsa) THAT YtodjiplbecpplaaProg.lean LOADS. Nothing in Lean hashes anything: it is a label: what it is worth is what the hold of that sum in a sandbox is worth. -/
noncomputable def Try.pinned : Pinned := { name := "ytodjiplbecpplaa", sum := "ddc67f51f3d1995c46c325c1824d99de476bec546c2a325f2fa7dc85da1ff6bc", checked := Try.checked }
namespace Rows
def none {H : Type} : Left H := { results := [], args := [] }

/-- 'solenoidlaw13.BlocksCounts': WHATEVER THE INPUT: true; the input reads as it did. -/
def blocksCountsSpec : ChangeSpec := { name := "blocksCounts", fn := fun _ => fun
  | [d1, d2] => { results := [.lit (.bool true)], args := [d1, d2] }
  | _ => none }
def blocksCountsRow : OpenClaim := { program := "ytodjiplbecpplaa", sum := "ddc67f51f3d1995c46c325c1824d99de476bec546c2a325f2fa7dc85da1ff6bc", func := "solenoid/solenoidlaw13.BlocksCounts", spec := "blocksCounts", apart := false }
def BlocksCountsSaid : Prop := blocksCountsRow.holds Try.pinned (OpenSpec.ofChange blocksCountsSpec)

/-- ITS FALSE NEIGHBOUR: 'it returns false'. Refute it at one input. -/
def blocksCountsWrong : ChangeSpec := { name := "blocksCounts", fn := fun _ => fun
  | [d1, d2] => { results := [.lit (.bool false)], args := [d1, d2] }
  | _ => none }
def BlocksCountsWrongFalsely : Prop := blocksCountsRow.holds Try.pinned (OpenSpec.ofChange blocksCountsWrong)

/-- 'solenoidlaw13.BlocksResets': WHATEVER THE INPUT: true; the input reads as it did. -/
def blocksResetsSpec : ChangeSpec := { name := "blocksResets", fn := fun _ => fun
  | [d] => { results := [.lit (.bool true)], args := [d] }
  | _ => none }
def blocksResetsRow : OpenClaim := { program := "ytodjiplbecpplaa", sum := "ddc67f51f3d1995c46c325c1824d99de476bec546c2a325f2fa7dc85da1ff6bc", func := "solenoid/solenoidlaw13.BlocksResets", spec := "blocksResets", apart := false }
def BlocksResetsSaid : Prop := blocksResetsRow.holds Try.pinned (OpenSpec.ofChange blocksResetsSpec)

/-- ITS FALSE NEIGHBOUR: 'it returns false'. Refute it at one input. -/
def blocksResetsWrong : ChangeSpec := { name := "blocksResets", fn := fun _ => fun
  | [d] => { results := [.lit (.bool false)], args := [d] }
  | _ => none }
def BlocksResetsWrongFalsely : Prop := blocksResetsRow.holds Try.pinned (OpenSpec.ofChange blocksResetsWrong)

/-- 'solenoidlaw13.BlocksAll': WHATEVER THE INPUT: true; the input reads as it did. -/
def blocksAllSpec : ChangeSpec := { name := "blocksAll", fn := fun _ => fun
  | [d1, d2] => { results := [.lit (.bool true)], args := [d1, d2] }
  | _ => none }
def blocksAllRow : OpenClaim := { program := "ytodjiplbecpplaa", sum := "ddc67f51f3d1995c46c325c1824d99de476bec546c2a325f2fa7dc85da1ff6bc", func := "solenoid/solenoidlaw13.BlocksAll", spec := "blocksAll", apart := false }
def BlocksAllSaid : Prop := blocksAllRow.holds Try.pinned (OpenSpec.ofChange blocksAllSpec)

/-- ITS FALSE NEIGHBOUR: 'it returns false'. Refute it at one input. -/
def blocksAllWrong : ChangeSpec := { name := "blocksAll", fn := fun _ => fun
  | [d1, d2] => { results := [.lit (.bool false)], args := [d1, d2] }
  | _ => none }
def BlocksAllWrongFalsely : Prop := blocksAllRow.holds Try.pinned (OpenSpec.ofChange blocksAllWrong)

/-- 'solenoidlaw13.BlocksTimes': WHATEVER THE INPUT: true; the input reads as it did. -/
def blocksTimesSpec : ChangeSpec := { name := "blocksTimes", fn := fun _ => fun
  | [d1, d2, d3] => { results := [.lit (.bool true)], args := [d1, d2, d3] }
  | _ => none }
def blocksTimesRow : OpenClaim := { program := "ytodjiplbecpplaa", sum := "ddc67f51f3d1995c46c325c1824d99de476bec546c2a325f2fa7dc85da1ff6bc", func := "solenoid/solenoidlaw13.BlocksTimes", spec := "blocksTimes", apart := false }
def BlocksTimesSaid : Prop := blocksTimesRow.holds Try.pinned (OpenSpec.ofChange blocksTimesSpec)

/-- ITS FALSE NEIGHBOUR: 'it returns false'. Refute it at one input. -/
def blocksTimesWrong : ChangeSpec := { name := "blocksTimes", fn := fun _ => fun
  | [d1, d2, d3] => { results := [.lit (.bool false)], args := [d1, d2, d3] }
  | _ => none }
def BlocksTimesWrongFalsely : Prop := blocksTimesRow.holds Try.pinned (OpenSpec.ofChange blocksTimesWrong)

/-- 'solenoidlaw13.BlocksTops': WHATEVER THE INPUT: true; the input reads as it did. -/
def blocksTopsSpec : ChangeSpec := { name := "blocksTops", fn := fun _ => fun
  | [d1, d2] => { results := [.lit (.bool true)], args := [d1, d2] }
  | _ => none }
def blocksTopsRow : OpenClaim := { program := "ytodjiplbecpplaa", sum := "ddc67f51f3d1995c46c325c1824d99de476bec546c2a325f2fa7dc85da1ff6bc", func := "solenoid/solenoidlaw13.BlocksTops", spec := "blocksTops", apart := false }
def BlocksTopsSaid : Prop := blocksTopsRow.holds Try.pinned (OpenSpec.ofChange blocksTopsSpec)

/-- ITS FALSE NEIGHBOUR: 'it returns false'. Refute it at one input. -/
def blocksTopsWrong : ChangeSpec := { name := "blocksTops", fn := fun _ => fun
  | [d1, d2] => { results := [.lit (.bool false)], args := [d1, d2] }
  | _ => none }
def BlocksTopsWrongFalsely : Prop := blocksTopsRow.holds Try.pinned (OpenSpec.ofChange blocksTopsWrong)

/-- 'solenoidlaw13.BlocksOff': WHATEVER THE INPUT: true; the input reads as it did. -/
def blocksOffSpec : ChangeSpec := { name := "blocksOff", fn := fun _ => fun
  | [d1, d2] => { results := [.lit (.bool true)], args := [d1, d2] }
  | _ => none }
def blocksOffRow : OpenClaim := { program := "ytodjiplbecpplaa", sum := "ddc67f51f3d1995c46c325c1824d99de476bec546c2a325f2fa7dc85da1ff6bc", func := "solenoid/solenoidlaw13.BlocksOff", spec := "blocksOff", apart := false }
def BlocksOffSaid : Prop := blocksOffRow.holds Try.pinned (OpenSpec.ofChange blocksOffSpec)

/-- ITS FALSE NEIGHBOUR: 'it returns false'. Refute it at one input. -/
def blocksOffWrong : ChangeSpec := { name := "blocksOff", fn := fun _ => fun
  | [d1, d2] => { results := [.lit (.bool false)], args := [d1, d2] }
  | _ => none }
def BlocksOffWrongFalsely : Prop := blocksOffRow.holds Try.pinned (OpenSpec.ofChange blocksOffWrong)

/-- 'solenoidlaw13.BlocksAgain': WHATEVER THE INPUT: true; the input reads as it did. -/
def blocksAgainSpec : ChangeSpec := { name := "blocksAgain", fn := fun _ => fun
  | [d1, d2] => { results := [.lit (.bool true)], args := [d1, d2] }
  | _ => none }
def blocksAgainRow : OpenClaim := { program := "ytodjiplbecpplaa", sum := "ddc67f51f3d1995c46c325c1824d99de476bec546c2a325f2fa7dc85da1ff6bc", func := "solenoid/solenoidlaw13.BlocksAgain", spec := "blocksAgain", apart := false }
def BlocksAgainSaid : Prop := blocksAgainRow.holds Try.pinned (OpenSpec.ofChange blocksAgainSpec)

/-- ITS FALSE NEIGHBOUR: 'it returns false'. Refute it at one input. -/
def blocksAgainWrong : ChangeSpec := { name := "blocksAgain", fn := fun _ => fun
  | [d1, d2] => { results := [.lit (.bool false)], args := [d1, d2] }
  | _ => none }
def BlocksAgainWrongFalsely : Prop := blocksAgainRow.holds Try.pinned (OpenSpec.ofChange blocksAgainWrong)

/- THE SECOND FORM. 'bulk': how many values and letters a reading holds, each counted each time it is reached (what is shared counts as often as it is met; a slice's spare places count too). A statement '..UptoSaid' is the law's where the arguments, and the package variables that the reading takes, are together of bulk at most 1048576: NARROWER than '..Said'. Prove '..Said' where nothing that the law and all that it calls make is longer than what came in: it says more and counts as full. Else prove '..UptoSaid'. A law counts once. -/
mutual
def uptoBulk {H : Type} : DataW H → Nat
  | .lit (.string bytes) => bytes.length + 1
  | .lit _ => 1
  | .nil => 1
  | .ptr d => uptoBulk d + 1
  | .slice elems spare => uptoBulkAll elems + uptoBulkAll spare + 1
  | .agg parts => uptoBulkAll parts + 1
  | .iface _ d => uptoBulk d + 1
  | .map entries => uptoBulkEntries entries + 1
  | .held _ => 1
def uptoBulkAll {H : Type} : List (DataW H) → Nat
  | [] => 0
  | d :: r => uptoBulk d + uptoBulkAll r
def uptoBulkEntries {H : Type} : List (Lit × DataW H) → Nat
  | [] => 0
  | x :: r => uptoBulkEntry x + uptoBulkEntries r
def uptoBulkEntry {H : Type} : Lit × DataW H → Nat
  | (.string bytes, d) => bytes.length + uptoBulk d + 1
  | (_, d) => uptoBulk d + 1
 end
def uptoSmall : (H : Type) → List (DataW H) → Bool := fun _ ds => decide (uptoBulkAll ds ≤ 1048576)
def OpenSpec.upto (s : _root_.Go.ChangeSpec) : _root_.Go.OpenSpec := { _root_.Go.OpenSpec.ofChange s with cond := some uptoSmall }

/-- 'solenoidlaw13.BlocksCounts', WHERE WHAT IT READS IS OF BULK AT MOST 1048576: true; the input reads as it did. -/
def blocksCountsUptoRow : OpenClaim := { program := "ytodjiplbecpplaa", sum := "ddc67f51f3d1995c46c325c1824d99de476bec546c2a325f2fa7dc85da1ff6bc", func := "solenoid/solenoidlaw13.BlocksCounts", spec := "blocksCounts", apart := false, narrowed := true }
def BlocksCountsUptoSaid : Prop := blocksCountsUptoRow.holds Try.pinned (OpenSpec.upto blocksCountsSpec)

/-- 'solenoidlaw13.BlocksResets', WHERE WHAT IT READS IS OF BULK AT MOST 1048576: true; the input reads as it did. -/
def blocksResetsUptoRow : OpenClaim := { program := "ytodjiplbecpplaa", sum := "ddc67f51f3d1995c46c325c1824d99de476bec546c2a325f2fa7dc85da1ff6bc", func := "solenoid/solenoidlaw13.BlocksResets", spec := "blocksResets", apart := false, narrowed := true }
def BlocksResetsUptoSaid : Prop := blocksResetsUptoRow.holds Try.pinned (OpenSpec.upto blocksResetsSpec)

/-- 'solenoidlaw13.BlocksAll', WHERE WHAT IT READS IS OF BULK AT MOST 1048576: true; the input reads as it did. -/
def blocksAllUptoRow : OpenClaim := { program := "ytodjiplbecpplaa", sum := "ddc67f51f3d1995c46c325c1824d99de476bec546c2a325f2fa7dc85da1ff6bc", func := "solenoid/solenoidlaw13.BlocksAll", spec := "blocksAll", apart := false, narrowed := true }
def BlocksAllUptoSaid : Prop := blocksAllUptoRow.holds Try.pinned (OpenSpec.upto blocksAllSpec)

/-- 'solenoidlaw13.BlocksTimes', WHERE WHAT IT READS IS OF BULK AT MOST 1048576: true; the input reads as it did. -/
def blocksTimesUptoRow : OpenClaim := { program := "ytodjiplbecpplaa", sum := "ddc67f51f3d1995c46c325c1824d99de476bec546c2a325f2fa7dc85da1ff6bc", func := "solenoid/solenoidlaw13.BlocksTimes", spec := "blocksTimes", apart := false, narrowed := true }
def BlocksTimesUptoSaid : Prop := blocksTimesUptoRow.holds Try.pinned (OpenSpec.upto blocksTimesSpec)

/-- 'solenoidlaw13.BlocksTops', WHERE WHAT IT READS IS OF BULK AT MOST 1048576: true; the input reads as it did. -/
def blocksTopsUptoRow : OpenClaim := { program := "ytodjiplbecpplaa", sum := "ddc67f51f3d1995c46c325c1824d99de476bec546c2a325f2fa7dc85da1ff6bc", func := "solenoid/solenoidlaw13.BlocksTops", spec := "blocksTops", apart := false, narrowed := true }
def BlocksTopsUptoSaid : Prop := blocksTopsUptoRow.holds Try.pinned (OpenSpec.upto blocksTopsSpec)

/-- 'solenoidlaw13.BlocksOff', WHERE WHAT IT READS IS OF BULK AT MOST 1048576: true; the input reads as it did. -/
def blocksOffUptoRow : OpenClaim := { program := "ytodjiplbecpplaa", sum := "ddc67f51f3d1995c46c325c1824d99de476bec546c2a325f2fa7dc85da1ff6bc", func := "solenoid/solenoidlaw13.BlocksOff", spec := "blocksOff", apart := false, narrowed := true }
def BlocksOffUptoSaid : Prop := blocksOffUptoRow.holds Try.pinned (OpenSpec.upto blocksOffSpec)

/-- 'solenoidlaw13.BlocksAgain', WHERE WHAT IT READS IS OF BULK AT MOST 1048576: true; the input reads as it did. -/
def blocksAgainUptoRow : OpenClaim := { program := "ytodjiplbecpplaa", sum := "ddc67f51f3d1995c46c325c1824d99de476bec546c2a325f2fa7dc85da1ff6bc", func := "solenoid/solenoidlaw13.BlocksAgain", spec := "blocksAgain", apart := false, narrowed := true }
def BlocksAgainUptoSaid : Prop := blocksAgainUptoRow.holds Try.pinned (OpenSpec.upto blocksAgainSpec)

end Rows
end Go.Proofs.Ytodjiplbecpplaa
