/-
  No cell of these rows narrows 'for every input' (looked for: loops, veiled, ifaces, maps, wideKeys, modest, calm, conditions, laid).
  DERIVED. THE GIVEN ROWS OF THIS SEAT. 10 by the template 'for every input the law returns true; each argument reads behind the call as it read before'; 0 by the template 'total and deterministic' (their statements: YtelfgfoonfajiaaTotals.lean).
  GIVEN WITH THE SEED: the statements are not yours to turn. If you find one false, say at which input.
  Laid BY PROGRAM, IN A SANDBOX (cutbox-rows.mjs): the forced cells as the released guide's own fill.sh prints them over the translation d105a692791c452d… (all of the seat's roots in one cut). By AI agents, Wed Nov 11 2026. No macro, syntax, notation, axiom, sorry.
-/
import Derived.Test.YtelfgfoonfajiaaChecked
import GoSem.Claim
import GoSem.ClaimJoined
import GoSem.ClaimMapViews
import Derived.JoinedTies
import Derived.KernelRfl
namespace Go.Proofs.Ytelfgfoonfajiaa
/- THE CELL 'sum', in the pinned program and in every row, IS THE sha256 OF THE DUMP (.gsa) THAT YtelfgfoonfajiaaProg.lean LOADS. Nothing in Lean hashes anything: it is a label: what it is worth is what the hold of that sum in a sandbox is worth. -/
noncomputable def Try.pinned : Pinned := { name := "ytelfgfoonfajiaa", sum := "d105a692791c452d656e750dadba2d79781c9086c3f61648ad0198276e1cbc50", checked := Try.checked }
namespace Rows
def none {H : Type} : Left H := { results := [], args := [] }

/-- 'solenoidlaw11.ArithKinds': WHATEVER THE INPUT: true; the input reads as it did. -/
def arithKindsSpec : ChangeSpec := { name := "arithKinds", fn := fun _ => fun
  | [d1, d2, d3] => { results := [.lit (.bool true)], args := [d1, d2, d3] }
  | _ => none }
def arithKindsRow : OpenClaim := { program := "ytelfgfoonfajiaa", sum := "d105a692791c452d656e750dadba2d79781c9086c3f61648ad0198276e1cbc50", func := "solenoid/solenoidlaw11.ArithKinds", spec := "arithKinds", apart := false }
def ArithKindsSaid : Prop := arithKindsRow.holds Try.pinned (OpenSpec.ofChange arithKindsSpec)

/-- ITS FALSE NEIGHBOUR: 'it returns false'. Refute it at one input. -/
def arithKindsWrong : ChangeSpec := { name := "arithKinds", fn := fun _ => fun
  | [d1, d2, d3] => { results := [.lit (.bool false)], args := [d1, d2, d3] }
  | _ => none }
def ArithKindsWrongFalsely : Prop := arithKindsRow.holds Try.pinned (OpenSpec.ofChange arithKindsWrong)

/-- 'solenoidlaw11.ArithTwos': WHATEVER THE INPUT: true; the input reads as it did. -/
def arithTwosSpec : ChangeSpec := { name := "arithTwos", fn := fun _ => fun
  | [d1, d2, d3, d4] => { results := [.lit (.bool true)], args := [d1, d2, d3, d4] }
  | _ => none }
def arithTwosRow : OpenClaim := { program := "ytelfgfoonfajiaa", sum := "d105a692791c452d656e750dadba2d79781c9086c3f61648ad0198276e1cbc50", func := "solenoid/solenoidlaw11.ArithTwos", spec := "arithTwos", apart := false }
def ArithTwosSaid : Prop := arithTwosRow.holds Try.pinned (OpenSpec.ofChange arithTwosSpec)

/-- ITS FALSE NEIGHBOUR: 'it returns false'. Refute it at one input. -/
def arithTwosWrong : ChangeSpec := { name := "arithTwos", fn := fun _ => fun
  | [d1, d2, d3, d4] => { results := [.lit (.bool false)], args := [d1, d2, d3, d4] }
  | _ => none }
def ArithTwosWrongFalsely : Prop := arithTwosRow.holds Try.pinned (OpenSpec.ofChange arithTwosWrong)

/-- 'solenoidlaw11.ArithDivs': WHATEVER THE INPUT: true; the input reads as it did. -/
def arithDivsSpec : ChangeSpec := { name := "arithDivs", fn := fun _ => fun
  | [d1, d2, d3] => { results := [.lit (.bool true)], args := [d1, d2, d3] }
  | _ => none }
def arithDivsRow : OpenClaim := { program := "ytelfgfoonfajiaa", sum := "d105a692791c452d656e750dadba2d79781c9086c3f61648ad0198276e1cbc50", func := "solenoid/solenoidlaw11.ArithDivs", spec := "arithDivs", apart := false }
def ArithDivsSaid : Prop := arithDivsRow.holds Try.pinned (OpenSpec.ofChange arithDivsSpec)

/-- ITS FALSE NEIGHBOUR: 'it returns false'. Refute it at one input. -/
def arithDivsWrong : ChangeSpec := { name := "arithDivs", fn := fun _ => fun
  | [d1, d2, d3] => { results := [.lit (.bool false)], args := [d1, d2, d3] }
  | _ => none }
def ArithDivsWrongFalsely : Prop := arithDivsRow.holds Try.pinned (OpenSpec.ofChange arithDivsWrong)

/-- 'solenoidlaw11.ArithOrders': WHATEVER THE INPUT: true; the input reads as it did. -/
def arithOrdersSpec : ChangeSpec := { name := "arithOrders", fn := fun _ => fun
  | [d1, d2, d3] => { results := [.lit (.bool true)], args := [d1, d2, d3] }
  | _ => none }
def arithOrdersRow : OpenClaim := { program := "ytelfgfoonfajiaa", sum := "d105a692791c452d656e750dadba2d79781c9086c3f61648ad0198276e1cbc50", func := "solenoid/solenoidlaw11.ArithOrders", spec := "arithOrders", apart := false }
def ArithOrdersSaid : Prop := arithOrdersRow.holds Try.pinned (OpenSpec.ofChange arithOrdersSpec)

/-- ITS FALSE NEIGHBOUR: 'it returns false'. Refute it at one input. -/
def arithOrdersWrong : ChangeSpec := { name := "arithOrders", fn := fun _ => fun
  | [d1, d2, d3] => { results := [.lit (.bool false)], args := [d1, d2, d3] }
  | _ => none }
def ArithOrdersWrongFalsely : Prop := arithOrdersRow.holds Try.pinned (OpenSpec.ofChange arithOrdersWrong)

/-- 'solenoidlaw11.ArithShifts': WHATEVER THE INPUT: true; the input reads as it did. -/
def arithShiftsSpec : ChangeSpec := { name := "arithShifts", fn := fun _ => fun
  | [d1, d2, d3] => { results := [.lit (.bool true)], args := [d1, d2, d3] }
  | _ => none }
def arithShiftsRow : OpenClaim := { program := "ytelfgfoonfajiaa", sum := "d105a692791c452d656e750dadba2d79781c9086c3f61648ad0198276e1cbc50", func := "solenoid/solenoidlaw11.ArithShifts", spec := "arithShifts", apart := false }
def ArithShiftsSaid : Prop := arithShiftsRow.holds Try.pinned (OpenSpec.ofChange arithShiftsSpec)

/-- ITS FALSE NEIGHBOUR: 'it returns false'. Refute it at one input. -/
def arithShiftsWrong : ChangeSpec := { name := "arithShifts", fn := fun _ => fun
  | [d1, d2, d3] => { results := [.lit (.bool false)], args := [d1, d2, d3] }
  | _ => none }
def ArithShiftsWrongFalsely : Prop := arithShiftsRow.holds Try.pinned (OpenSpec.ofChange arithShiftsWrong)

/-- 'solenoidlaw11.ArithTimes': WHATEVER THE INPUT: true; the input reads as it did. -/
def arithTimesSpec : ChangeSpec := { name := "arithTimes", fn := fun _ => fun
  | [d1, d2, d3] => { results := [.lit (.bool true)], args := [d1, d2, d3] }
  | _ => none }
def arithTimesRow : OpenClaim := { program := "ytelfgfoonfajiaa", sum := "d105a692791c452d656e750dadba2d79781c9086c3f61648ad0198276e1cbc50", func := "solenoid/solenoidlaw11.ArithTimes", spec := "arithTimes", apart := false }
def ArithTimesSaid : Prop := arithTimesRow.holds Try.pinned (OpenSpec.ofChange arithTimesSpec)

/-- ITS FALSE NEIGHBOUR: 'it returns false'. Refute it at one input. -/
def arithTimesWrong : ChangeSpec := { name := "arithTimes", fn := fun _ => fun
  | [d1, d2, d3] => { results := [.lit (.bool false)], args := [d1, d2, d3] }
  | _ => none }
def ArithTimesWrongFalsely : Prop := arithTimesRow.holds Try.pinned (OpenSpec.ofChange arithTimesWrong)

/-- 'solenoidlaw11.ArithMixed': WHATEVER THE INPUT: true; the input reads as it did. -/
def arithMixedSpec : ChangeSpec := { name := "arithMixed", fn := fun _ => fun
  | [d1, d2, d3] => { results := [.lit (.bool true)], args := [d1, d2, d3] }
  | _ => none }
def arithMixedRow : OpenClaim := { program := "ytelfgfoonfajiaa", sum := "d105a692791c452d656e750dadba2d79781c9086c3f61648ad0198276e1cbc50", func := "solenoid/solenoidlaw11.ArithMixed", spec := "arithMixed", apart := false }
def ArithMixedSaid : Prop := arithMixedRow.holds Try.pinned (OpenSpec.ofChange arithMixedSpec)

/-- ITS FALSE NEIGHBOUR: 'it returns false'. Refute it at one input. -/
def arithMixedWrong : ChangeSpec := { name := "arithMixed", fn := fun _ => fun
  | [d1, d2, d3] => { results := [.lit (.bool false)], args := [d1, d2, d3] }
  | _ => none }
def ArithMixedWrongFalsely : Prop := arithMixedRow.holds Try.pinned (OpenSpec.ofChange arithMixedWrong)

/-- 'solenoidlaw11.ArithConvs': WHATEVER THE INPUT: true; the input reads as it did. -/
def arithConvsSpec : ChangeSpec := { name := "arithConvs", fn := fun _ => fun
  | [d1, d2] => { results := [.lit (.bool true)], args := [d1, d2] }
  | _ => none }
def arithConvsRow : OpenClaim := { program := "ytelfgfoonfajiaa", sum := "d105a692791c452d656e750dadba2d79781c9086c3f61648ad0198276e1cbc50", func := "solenoid/solenoidlaw11.ArithConvs", spec := "arithConvs", apart := false }
def ArithConvsSaid : Prop := arithConvsRow.holds Try.pinned (OpenSpec.ofChange arithConvsSpec)

/-- ITS FALSE NEIGHBOUR: 'it returns false'. Refute it at one input. -/
def arithConvsWrong : ChangeSpec := { name := "arithConvs", fn := fun _ => fun
  | [d1, d2] => { results := [.lit (.bool false)], args := [d1, d2] }
  | _ => none }
def ArithConvsWrongFalsely : Prop := arithConvsRow.holds Try.pinned (OpenSpec.ofChange arithConvsWrong)

/-- 'solenoidlaw11.ArithBits': WHATEVER THE INPUT: true; the input reads as it did. -/
def arithBitsSpec : ChangeSpec := { name := "arithBits", fn := fun _ => fun
  | [d1, d2, d3] => { results := [.lit (.bool true)], args := [d1, d2, d3] }
  | _ => none }
def arithBitsRow : OpenClaim := { program := "ytelfgfoonfajiaa", sum := "d105a692791c452d656e750dadba2d79781c9086c3f61648ad0198276e1cbc50", func := "solenoid/solenoidlaw11.ArithBits", spec := "arithBits", apart := false }
def ArithBitsSaid : Prop := arithBitsRow.holds Try.pinned (OpenSpec.ofChange arithBitsSpec)

/-- ITS FALSE NEIGHBOUR: 'it returns false'. Refute it at one input. -/
def arithBitsWrong : ChangeSpec := { name := "arithBits", fn := fun _ => fun
  | [d1, d2, d3] => { results := [.lit (.bool false)], args := [d1, d2, d3] }
  | _ => none }
def ArithBitsWrongFalsely : Prop := arithBitsRow.holds Try.pinned (OpenSpec.ofChange arithBitsWrong)

/-- 'solenoidlaw11.ArithOnes': WHATEVER THE INPUT: true; the input reads as it did. -/
def arithOnesSpec : ChangeSpec := { name := "arithOnes", fn := fun _ => fun
  | [d1, d2, d3] => { results := [.lit (.bool true)], args := [d1, d2, d3] }
  | _ => none }
def arithOnesRow : OpenClaim := { program := "ytelfgfoonfajiaa", sum := "d105a692791c452d656e750dadba2d79781c9086c3f61648ad0198276e1cbc50", func := "solenoid/solenoidlaw11.ArithOnes", spec := "arithOnes", apart := false }
def ArithOnesSaid : Prop := arithOnesRow.holds Try.pinned (OpenSpec.ofChange arithOnesSpec)

/-- ITS FALSE NEIGHBOUR: 'it returns false'. Refute it at one input. -/
def arithOnesWrong : ChangeSpec := { name := "arithOnes", fn := fun _ => fun
  | [d1, d2, d3] => { results := [.lit (.bool false)], args := [d1, d2, d3] }
  | _ => none }
def ArithOnesWrongFalsely : Prop := arithOnesRow.holds Try.pinned (OpenSpec.ofChange arithOnesWrong)

/- THE SECOND FORM. 'bulk': how many values and letters a reading holds, each counted each time it is reached (what is shared counts as often as it is met; a slice's spare places count too). A statement '..UptoSaid' is the law's where the arguments, and the package variables that the reading takes, are together of bulk at most 1048576: NARROWER than '..Said'. Prove '..Said' where nothing that the law and all that it calls make is longer than what came in: it says more and counts as full. Else prove '..UptoSaid'. A law counts once. -/
mutual
def uptoBulk {H : Type} : DataW H → Nat
  | .lit (.string bytes) => bytes.length + 1
  | .lit _ => 1
  | .nil => 1
  | .ptr d => uptoBulk d + 1
  | .slice elems spare => uptoBulkAll elems + uptoBulkAll spare + 1
  | .agg parts => uptoBulkAll parts + 1
  | .iface _ d => uptoBulk d + 1
  | .map entries => uptoBulkEntries entries + 1
  | .held _ => 1
def uptoBulkAll {H : Type} : List (DataW H) → Nat
  | [] => 0
  | d :: r => uptoBulk d + uptoBulkAll r
def uptoBulkEntries {H : Type} : List (Lit × DataW H) → Nat
  | [] => 0
  | x :: r => uptoBulkEntry x + uptoBulkEntries r
def uptoBulkEntry {H : Type} : Lit × DataW H → Nat
  | (.string bytes, d) => bytes.length + uptoBulk d + 1
  | (_, d) => uptoBulk d + 1
 end
def uptoSmall : (H : Type) → List (DataW H) → Bool := fun _ ds => decide (uptoBulkAll ds ≤ 1048576)
def OpenSpec.upto (s : _root_.Go.ChangeSpec) : _root_.Go.OpenSpec := { _root_.Go.OpenSpec.ofChange s with cond := some uptoSmall }

/-- 'solenoidlaw11.ArithKinds', WHERE WHAT IT READS IS OF BULK AT MOST 1048576: true; the input reads as it did. -/
def arithKindsUptoRow : OpenClaim := { program := "ytelfgfoonfajiaa", sum := "d105a692791c452d656e750dadba2d79781c9086c3f61648ad0198276e1cbc50", func := "solenoid/solenoidlaw11.ArithKinds", spec := "arithKinds", apart := false, narrowed := true }
def ArithKindsUptoSaid : Prop := arithKindsUptoRow.holds Try.pinned (OpenSpec.upto arithKindsSpec)

/-- 'solenoidlaw11.ArithTwos', WHERE WHAT IT READS IS OF BULK AT MOST 1048576: true; the input reads as it did. -/
def arithTwosUptoRow : OpenClaim := { program := "ytelfgfoonfajiaa", sum := "d105a692791c452d656e750dadba2d79781c9086c3f61648ad0198276e1cbc50", func := "solenoid/solenoidlaw11.ArithTwos", spec := "arithTwos", apart := false, narrowed := true }
def ArithTwosUptoSaid : Prop := arithTwosUptoRow.holds Try.pinned (OpenSpec.upto arithTwosSpec)

/-- 'solenoidlaw11.ArithDivs', WHERE WHAT IT READS IS OF BULK AT MOST 1048576: true; the input reads as it did. -/
def arithDivsUptoRow : OpenClaim := { program := "ytelfgfoonfajiaa", sum := "d105a692791c452d656e750dadba2d79781c9086c3f61648ad0198276e1cbc50", func := "solenoid/solenoidlaw11.ArithDivs", spec := "arithDivs", apart := false, narrowed := true }
def ArithDivsUptoSaid : Prop := arithDivsUptoRow.holds Try.pinned (OpenSpec.upto arithDivsSpec)

/-- 'solenoidlaw11.ArithOrders', WHERE WHAT IT READS IS OF BULK AT MOST 1048576: true; the input reads as it did. -/
def arithOrdersUptoRow : OpenClaim := { program := "ytelfgfoonfajiaa", sum := "d105a692791c452d656e750dadba2d79781c9086c3f61648ad0198276e1cbc50", func := "solenoid/solenoidlaw11.ArithOrders", spec := "arithOrders", apart := false, narrowed := true }
def ArithOrdersUptoSaid : Prop := arithOrdersUptoRow.holds Try.pinned (OpenSpec.upto arithOrdersSpec)

/-- 'solenoidlaw11.ArithShifts', WHERE WHAT IT READS IS OF BULK AT MOST 1048576: true; the input reads as it did. -/
def arithShiftsUptoRow : OpenClaim := { program := "ytelfgfoonfajiaa", sum := "d105a692791c452d656e750dadba2d79781c9086c3f61648ad0198276e1cbc50", func := "solenoid/solenoidlaw11.ArithShifts", spec := "arithShifts", apart := false, narrowed := true }
def ArithShiftsUptoSaid : Prop := arithShiftsUptoRow.holds Try.pinned (OpenSpec.upto arithShiftsSpec)

/-- 'solenoidlaw11.ArithTimes', WHERE WHAT IT READS IS OF BULK AT MOST 1048576: true; the input reads as it did. -/
def arithTimesUptoRow : OpenClaim := { program := "ytelfgfoonfajiaa", sum := "d105a692791c452d656e750dadba2d79781c9086c3f61648ad0198276e1cbc50", func := "solenoid/solenoidlaw11.ArithTimes", spec := "arithTimes", apart := false, narrowed := true }
def ArithTimesUptoSaid : Prop := arithTimesUptoRow.holds Try.pinned (OpenSpec.upto arithTimesSpec)

/-- 'solenoidlaw11.ArithMixed', WHERE WHAT IT READS IS OF BULK AT MOST 1048576: true; the input reads as it did. -/
def arithMixedUptoRow : OpenClaim := { program := "ytelfgfoonfajiaa", sum := "d105a692791c452d656e750dadba2d79781c9086c3f61648ad0198276e1cbc50", func := "solenoid/solenoidlaw11.ArithMixed", spec := "arithMixed", apart := false, narrowed := true }
def ArithMixedUptoSaid : Prop := arithMixedUptoRow.holds Try.pinned (OpenSpec.upto arithMixedSpec)

/-- 'solenoidlaw11.ArithConvs', WHERE WHAT IT READS IS OF BULK AT MOST 1048576: true; the input reads as it did. -/
def arithConvsUptoRow : OpenClaim := { program := "ytelfgfoonfajiaa", sum := "d105a692791c452d656e750dadba2d79781c9086c3f61648ad0198276e1cbc50", func := "solenoid/solenoidlaw11.ArithConvs", spec := "arithConvs", apart := false, narrowed := true }
def ArithConvsUptoSaid : Prop := arithConvsUptoRow.holds Try.pinned (OpenSpec.upto arithConvsSpec)

/-- 'solenoidlaw11.ArithBits', WHERE WHAT IT READS IS OF BULK AT MOST 1048576: true; the input reads as it did. -/
def arithBitsUptoRow : OpenClaim := { program := "ytelfgfoonfajiaa", sum := "d105a692791c452d656e750dadba2d79781c9086c3f61648ad0198276e1cbc50", func := "solenoid/solenoidlaw11.ArithBits", spec := "arithBits", apart := false, narrowed := true }
def ArithBitsUptoSaid : Prop := arithBitsUptoRow.holds Try.pinned (OpenSpec.upto arithBitsSpec)

/-- 'solenoidlaw11.ArithOnes', WHERE WHAT IT READS IS OF BULK AT MOST 1048576: true; the input reads as it did. -/
def arithOnesUptoRow : OpenClaim := { program := "ytelfgfoonfajiaa", sum := "d105a692791c452d656e750dadba2d79781c9086c3f61648ad0198276e1cbc50", func := "solenoid/solenoidlaw11.ArithOnes", spec := "arithOnes", apart := false, narrowed := true }
def ArithOnesUptoSaid : Prop := arithOnesUptoRow.holds Try.pinned (OpenSpec.upto arithOnesSpec)

end Rows
end Go.Proofs.Ytelfgfoonfajiaa
