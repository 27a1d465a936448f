/-
  DERIVED. GIVEN WITH THE SEED: THE CARDS: each row of YtngobbbinacomaaDoorRows.lean that lists a variable, with what it lists TIED to the program's text (the seventh form; the later family's looks); each row that meets fmt, with fmt's text TOLD by the authors' own Lean function (tested against real Go, not proved from fmt's source: count such statements apart). THE CARD IS WHAT COUNTS. Prove the row's statement (the work); the ties are given (YtngobbbinacomaaDoorTie.lean); close each card by the builder's one call (the guide's Derived/Test/ToyasCard.lean, 'card_holds'). Laid BY PROGRAM, IN A SANDBOX (cutbox-door.mjs). By AI agents, Wed Nov 11 2026. No macro, syntax, notation, axiom, sorry.
-/
import Derived.Test.YtngobbbinacomaaDoorRows
import GoSem.ClaimSeven
namespace Go.Proofs.YtngobbbinacomaaDoor
namespace Rows

/-- THE TIED CARD OF 'solenoidlaw14.VmRuns'. -/
def vmRunsCard : Claim7 := { stood := { row := vmRunsRow, standIns := [], harness := (true, "18a9058a6aab64abec72e6fb6085413fccaf6d9cfbf51f1a7676176f77423496"), looks := false }, kinds := [], alts := [], laidByText := true, laidKinds := [.data, .data, .data], laidTests := true, laidLooks := .later }
def VmRunsCardSaid : Prop := Claim7.holds Tryd.pinned (.plain (OpenSpec.ofChange vmRunsSpec)) vmRunsCard

/-- THE TIED CARD OF 'solenoidlaw14.VmRows'. -/
def vmRowsCard : Claim7 := { stood := { row := vmRowsRow, standIns := [], harness := (true, "18a9058a6aab64abec72e6fb6085413fccaf6d9cfbf51f1a7676176f77423496"), looks := false }, kinds := [], alts := [], laidByText := true, laidKinds := [.data, .data, .data], laidTests := true, laidLooks := .later }
def VmRowsCardSaid : Prop := Claim7.holds Tryd.pinned (.plain (OpenSpec.ofChange vmRowsSpec)) vmRowsCard

/-- THE TIED CARD OF 'solenoidlaw14.VmIndex'. -/
def vmIndexCard : Claim7 := { stood := { row := vmIndexRow, standIns := [], harness := (true, "18a9058a6aab64abec72e6fb6085413fccaf6d9cfbf51f1a7676176f77423496"), looks := false }, kinds := [], alts := [], laidByText := true, laidKinds := [.data, .data, .data], laidTests := true, laidLooks := .later }
def VmIndexCardSaid : Prop := Claim7.holds Tryd.pinned (.plain (OpenSpec.ofChange vmIndexSpec)) vmIndexCard

/-- THE TIED CARD OF 'solenoidlaw14.VmLoops'. -/
def vmLoopsCard : Claim7 := { stood := { row := vmLoopsRow, standIns := [], harness := (true, "18a9058a6aab64abec72e6fb6085413fccaf6d9cfbf51f1a7676176f77423496"), looks := false }, kinds := [], alts := [], laidByText := true, laidKinds := [.data, .data, .data], laidTests := true, laidLooks := .later }
def VmLoopsCardSaid : Prop := Claim7.holds Tryd.pinned (.plain (OpenSpec.ofChange vmLoopsSpec)) vmLoopsCard

/-- THE TIED CARD OF 'solenoidlaw14.VmCalls'. -/
def vmCallsCard : Claim7 := { stood := { row := vmCallsRow, standIns := [], harness := (true, "18a9058a6aab64abec72e6fb6085413fccaf6d9cfbf51f1a7676176f77423496"), looks := false }, kinds := [], alts := [], laidByText := true, laidKinds := [.data, .data, .data], laidTests := true, laidLooks := .later }
def VmCallsCardSaid : Prop := Claim7.holds Tryd.pinned (.plain (OpenSpec.ofChange vmCallsSpec)) vmCallsCard

/-- THE TIED CARD OF 'solenoidlaw14.VmTwins'. -/
def vmTwinsCard : Claim7 := { stood := { row := vmTwinsRow, standIns := [], harness := (true, "18a9058a6aab64abec72e6fb6085413fccaf6d9cfbf51f1a7676176f77423496"), looks := false }, kinds := [], alts := [], laidByText := true, laidKinds := [.data, .data, .data], laidTests := true, laidLooks := .later }
def VmTwinsCardSaid : Prop := Claim7.holds Tryd.pinned (.plain (OpenSpec.ofChange vmTwinsSpec)) vmTwinsCard

/-- THE TIED CARD OF 'solenoidlaw14.VmOuts'. -/
def vmOutsCard : Claim7 := { stood := { row := vmOutsRow, standIns := [], harness := (true, "18a9058a6aab64abec72e6fb6085413fccaf6d9cfbf51f1a7676176f77423496"), looks := false }, kinds := [], alts := [], laidByText := true, laidKinds := [.data, .data, .data], laidTests := true, laidLooks := .later }
def VmOutsCardSaid : Prop := Claim7.holds Tryd.pinned (.plain (OpenSpec.ofChange vmOutsSpec)) vmOutsCard

/-- THE TIED CARD OF 'solenoidlaw14.VmBlocks'. -/
def vmBlocksCard : Claim7 := { stood := { row := vmBlocksRow, standIns := [], harness := (true, "18a9058a6aab64abec72e6fb6085413fccaf6d9cfbf51f1a7676176f77423496"), looks := false }, kinds := [], alts := [], laidByText := true, laidKinds := [.data, .data, .data], laidTests := true, laidLooks := .later }
def VmBlocksCardSaid : Prop := Claim7.holds Tryd.pinned (.plain (OpenSpec.ofChange vmBlocksSpec)) vmBlocksCard

/-- THE TIED CARD OF 'solenoidlaw14.VmStacks'. -/
def vmStacksCard : Claim7 := { stood := { row := vmStacksRow, standIns := [], harness := (true, "18a9058a6aab64abec72e6fb6085413fccaf6d9cfbf51f1a7676176f77423496"), looks := false }, kinds := [], alts := [], laidByText := true, laidKinds := [.data, .data, .data], laidTests := true, laidLooks := .later }
def VmStacksCardSaid : Prop := Claim7.holds Tryd.pinned (.plain (OpenSpec.ofChange vmStacksSpec)) vmStacksCard

/-- THE TIED CARD OF 'solenoidlaw14.VmJumps'. -/
def vmJumpsCard : Claim7 := { stood := { row := vmJumpsRow, standIns := [], harness := (true, "18a9058a6aab64abec72e6fb6085413fccaf6d9cfbf51f1a7676176f77423496"), looks := false }, kinds := [], alts := [], laidByText := true, laidKinds := [.data, .data, .data], laidTests := true, laidLooks := .later }
def VmJumpsCardSaid : Prop := Claim7.holds Tryd.pinned (.plain (OpenSpec.ofChange vmJumpsSpec)) vmJumpsCard

/-- THE TIED CARD OF 'solenoidlaw14.VmTimes'. -/
def vmTimesCard : Claim7 := { stood := { row := vmTimesRow, standIns := [], harness := (true, "18a9058a6aab64abec72e6fb6085413fccaf6d9cfbf51f1a7676176f77423496"), looks := false }, kinds := [], alts := [], laidByText := true, laidKinds := [.data, .data, .data], laidTests := true, laidLooks := .later }
def VmTimesCardSaid : Prop := Claim7.holds Tryd.pinned (.plain (OpenSpec.ofChange vmTimesSpec)) vmTimesCard

/-- THE TIED CARD OF 'solenoidlaw14.VmStores'. -/
def vmStoresCard : Claim7 := { stood := { row := vmStoresRow, standIns := [], harness := (true, "18a9058a6aab64abec72e6fb6085413fccaf6d9cfbf51f1a7676176f77423496"), looks := false }, kinds := [], alts := [], laidByText := true, laidKinds := [.data, .data, .data], laidTests := true, laidLooks := .later }
def VmStoresCardSaid : Prop := Claim7.holds Tryd.pinned (.plain (OpenSpec.ofChange vmStoresSpec)) vmStoresCard

/-- THE TIED CARD OF 'solenoidlaw14.VmPorts'. -/
def vmPortsCard : Claim7 := { stood := { row := vmPortsRow, standIns := [], harness := (true, "18a9058a6aab64abec72e6fb6085413fccaf6d9cfbf51f1a7676176f77423496"), looks := false }, kinds := [], alts := [], laidByText := true, laidKinds := [.data, .data, .data], laidTests := true, laidLooks := .later }
def VmPortsCardSaid : Prop := Claim7.holds Tryd.pinned (.plain (OpenSpec.ofChange vmPortsSpec)) vmPortsCard

/-- THE TIED CARD OF 'solenoidlaw14.VmBudgets'. -/
def vmBudgetsCard : Claim7 := { stood := { row := vmBudgetsRow, standIns := [], harness := (true, "18a9058a6aab64abec72e6fb6085413fccaf6d9cfbf51f1a7676176f77423496"), looks := false }, kinds := [], alts := [], laidByText := true, laidKinds := [.data, .data, .data], laidTests := true, laidLooks := .later }
def VmBudgetsCardSaid : Prop := Claim7.holds Tryd.pinned (.plain (OpenSpec.ofChange vmBudgetsSpec)) vmBudgetsCard

/-- THE SECOND FORM's CARD OF 'solenoidlaw14.VmRuns'. -/
def vmRunsUptoCard : Claim7 := { stood := { row := vmRunsUptoRow, standIns := [], harness := (true, "18a9058a6aab64abec72e6fb6085413fccaf6d9cfbf51f1a7676176f77423496"), looks := false }, kinds := [], alts := [], laidByText := true, laidKinds := [.data, .data, .data], laidTests := true, laidLooks := .later }
def VmRunsUptoCardSaid : Prop := Claim7.holds Tryd.pinned (.plain (OpenSpec.upto vmRunsSpec)) vmRunsUptoCard

/-- THE SECOND FORM's CARD OF 'solenoidlaw14.VmRows'. -/
def vmRowsUptoCard : Claim7 := { stood := { row := vmRowsUptoRow, standIns := [], harness := (true, "18a9058a6aab64abec72e6fb6085413fccaf6d9cfbf51f1a7676176f77423496"), looks := false }, kinds := [], alts := [], laidByText := true, laidKinds := [.data, .data, .data], laidTests := true, laidLooks := .later }
def VmRowsUptoCardSaid : Prop := Claim7.holds Tryd.pinned (.plain (OpenSpec.upto vmRowsSpec)) vmRowsUptoCard

/-- THE SECOND FORM's CARD OF 'solenoidlaw14.VmIndex'. -/
def vmIndexUptoCard : Claim7 := { stood := { row := vmIndexUptoRow, standIns := [], harness := (true, "18a9058a6aab64abec72e6fb6085413fccaf6d9cfbf51f1a7676176f77423496"), looks := false }, kinds := [], alts := [], laidByText := true, laidKinds := [.data, .data, .data], laidTests := true, laidLooks := .later }
def VmIndexUptoCardSaid : Prop := Claim7.holds Tryd.pinned (.plain (OpenSpec.upto vmIndexSpec)) vmIndexUptoCard

/-- THE SECOND FORM's CARD OF 'solenoidlaw14.VmLoops'. -/
def vmLoopsUptoCard : Claim7 := { stood := { row := vmLoopsUptoRow, standIns := [], harness := (true, "18a9058a6aab64abec72e6fb6085413fccaf6d9cfbf51f1a7676176f77423496"), looks := false }, kinds := [], alts := [], laidByText := true, laidKinds := [.data, .data, .data], laidTests := true, laidLooks := .later }
def VmLoopsUptoCardSaid : Prop := Claim7.holds Tryd.pinned (.plain (OpenSpec.upto vmLoopsSpec)) vmLoopsUptoCard

/-- THE SECOND FORM's CARD OF 'solenoidlaw14.VmCalls'. -/
def vmCallsUptoCard : Claim7 := { stood := { row := vmCallsUptoRow, standIns := [], harness := (true, "18a9058a6aab64abec72e6fb6085413fccaf6d9cfbf51f1a7676176f77423496"), looks := false }, kinds := [], alts := [], laidByText := true, laidKinds := [.data, .data, .data], laidTests := true, laidLooks := .later }
def VmCallsUptoCardSaid : Prop := Claim7.holds Tryd.pinned (.plain (OpenSpec.upto vmCallsSpec)) vmCallsUptoCard

/-- THE SECOND FORM's CARD OF 'solenoidlaw14.VmTwins'. -/
def vmTwinsUptoCard : Claim7 := { stood := { row := vmTwinsUptoRow, standIns := [], harness := (true, "18a9058a6aab64abec72e6fb6085413fccaf6d9cfbf51f1a7676176f77423496"), looks := false }, kinds := [], alts := [], laidByText := true, laidKinds := [.data, .data, .data], laidTests := true, laidLooks := .later }
def VmTwinsUptoCardSaid : Prop := Claim7.holds Tryd.pinned (.plain (OpenSpec.upto vmTwinsSpec)) vmTwinsUptoCard

/-- THE SECOND FORM's CARD OF 'solenoidlaw14.VmOuts'. -/
def vmOutsUptoCard : Claim7 := { stood := { row := vmOutsUptoRow, standIns := [], harness := (true, "18a9058a6aab64abec72e6fb6085413fccaf6d9cfbf51f1a7676176f77423496"), looks := false }, kinds := [], alts := [], laidByText := true, laidKinds := [.data, .data, .data], laidTests := true, laidLooks := .later }
def VmOutsUptoCardSaid : Prop := Claim7.holds Tryd.pinned (.plain (OpenSpec.upto vmOutsSpec)) vmOutsUptoCard

/-- THE SECOND FORM's CARD OF 'solenoidlaw14.VmBlocks'. -/
def vmBlocksUptoCard : Claim7 := { stood := { row := vmBlocksUptoRow, standIns := [], harness := (true, "18a9058a6aab64abec72e6fb6085413fccaf6d9cfbf51f1a7676176f77423496"), looks := false }, kinds := [], alts := [], laidByText := true, laidKinds := [.data, .data, .data], laidTests := true, laidLooks := .later }
def VmBlocksUptoCardSaid : Prop := Claim7.holds Tryd.pinned (.plain (OpenSpec.upto vmBlocksSpec)) vmBlocksUptoCard

/-- THE SECOND FORM's CARD OF 'solenoidlaw14.VmStacks'. -/
def vmStacksUptoCard : Claim7 := { stood := { row := vmStacksUptoRow, standIns := [], harness := (true, "18a9058a6aab64abec72e6fb6085413fccaf6d9cfbf51f1a7676176f77423496"), looks := false }, kinds := [], alts := [], laidByText := true, laidKinds := [.data, .data, .data], laidTests := true, laidLooks := .later }
def VmStacksUptoCardSaid : Prop := Claim7.holds Tryd.pinned (.plain (OpenSpec.upto vmStacksSpec)) vmStacksUptoCard

/-- THE SECOND FORM's CARD OF 'solenoidlaw14.VmJumps'. -/
def vmJumpsUptoCard : Claim7 := { stood := { row := vmJumpsUptoRow, standIns := [], harness := (true, "18a9058a6aab64abec72e6fb6085413fccaf6d9cfbf51f1a7676176f77423496"), looks := false }, kinds := [], alts := [], laidByText := true, laidKinds := [.data, .data, .data], laidTests := true, laidLooks := .later }
def VmJumpsUptoCardSaid : Prop := Claim7.holds Tryd.pinned (.plain (OpenSpec.upto vmJumpsSpec)) vmJumpsUptoCard

/-- THE SECOND FORM's CARD OF 'solenoidlaw14.VmTimes'. -/
def vmTimesUptoCard : Claim7 := { stood := { row := vmTimesUptoRow, standIns := [], harness := (true, "18a9058a6aab64abec72e6fb6085413fccaf6d9cfbf51f1a7676176f77423496"), looks := false }, kinds := [], alts := [], laidByText := true, laidKinds := [.data, .data, .data], laidTests := true, laidLooks := .later }
def VmTimesUptoCardSaid : Prop := Claim7.holds Tryd.pinned (.plain (OpenSpec.upto vmTimesSpec)) vmTimesUptoCard

/-- THE SECOND FORM's CARD OF 'solenoidlaw14.VmStores'. -/
def vmStoresUptoCard : Claim7 := { stood := { row := vmStoresUptoRow, standIns := [], harness := (true, "18a9058a6aab64abec72e6fb6085413fccaf6d9cfbf51f1a7676176f77423496"), looks := false }, kinds := [], alts := [], laidByText := true, laidKinds := [.data, .data, .data], laidTests := true, laidLooks := .later }
def VmStoresUptoCardSaid : Prop := Claim7.holds Tryd.pinned (.plain (OpenSpec.upto vmStoresSpec)) vmStoresUptoCard

/-- THE SECOND FORM's CARD OF 'solenoidlaw14.VmPorts'. -/
def vmPortsUptoCard : Claim7 := { stood := { row := vmPortsUptoRow, standIns := [], harness := (true, "18a9058a6aab64abec72e6fb6085413fccaf6d9cfbf51f1a7676176f77423496"), looks := false }, kinds := [], alts := [], laidByText := true, laidKinds := [.data, .data, .data], laidTests := true, laidLooks := .later }
def VmPortsUptoCardSaid : Prop := Claim7.holds Tryd.pinned (.plain (OpenSpec.upto vmPortsSpec)) vmPortsUptoCard

/-- THE SECOND FORM's CARD OF 'solenoidlaw14.VmBudgets'. -/
def vmBudgetsUptoCard : Claim7 := { stood := { row := vmBudgetsUptoRow, standIns := [], harness := (true, "18a9058a6aab64abec72e6fb6085413fccaf6d9cfbf51f1a7676176f77423496"), looks := false }, kinds := [], alts := [], laidByText := true, laidKinds := [.data, .data, .data], laidTests := true, laidLooks := .later }
def VmBudgetsUptoCardSaid : Prop := Claim7.holds Tryd.pinned (.plain (OpenSpec.upto vmBudgetsSpec)) vmBudgetsUptoCard
end Rows
end Go.Proofs.YtngobbbinacomaaDoor
