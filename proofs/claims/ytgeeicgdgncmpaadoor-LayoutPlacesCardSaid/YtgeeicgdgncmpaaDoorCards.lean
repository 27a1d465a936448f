/-
  DERIVED. GIVEN WITH THE SEED: THE CARDS: each row of YtgeeicgdgncmpaaDoorRows.lean that lists a variable, with what it lists TIED to the program's text (the seventh form; the later family's looks); each row that meets fmt, with fmt's text TOLD by the authors' own Lean function (tested against real Go, not proved from fmt's source: count such statements apart). THE CARD IS WHAT COUNTS. Prove the row's statement (the work); the ties are given (YtgeeicgdgncmpaaDoorTie.lean); close each card by the builder's one call (the guide's Derived/Test/ToyasCard.lean, 'card_holds'). Laid BY PROGRAM, IN A SANDBOX (cutbox-door.mjs). By AI agents, Wed Nov 11 2026. No macro, syntax, notation, axiom, sorry.
-/
import Derived.Test.YtgeeicgdgncmpaaDoorRows
import GoSem.ClaimSeven
namespace Go.Proofs.YtgeeicgdgncmpaaDoor
namespace Rows

/-- THE TIED CARD OF 'solenoidlaw8.LayoutPlaces'. -/
def layoutPlacesCard : Claim7 := { stood := { row := layoutPlacesRow, standIns := [], harness := (true, "1b2838f4a1ff6d45812d4e7ec04f17f17c6e03a92aeac00e7f1d9ae2b34c9d1e"), looks := false }, kinds := [], alts := [], laidByText := true, laidKinds := [.data, .data, .data], laidTests := true, laidLooks := .later }
def LayoutPlacesCardSaid : Prop := Claim7.holds Tryd.pinned (.plain (OpenSpec.ofChange layoutPlacesSpec)) layoutPlacesCard

/-- THE TIED CARD OF 'solenoidlaw8.LayoutPaths'. -/
def layoutPathsCard : Claim7 := { stood := { row := layoutPathsRow, standIns := [], harness := (true, "1b2838f4a1ff6d45812d4e7ec04f17f17c6e03a92aeac00e7f1d9ae2b34c9d1e"), looks := false }, kinds := [], alts := [], laidByText := true, laidKinds := [.data, .data, .data], laidTests := true, laidLooks := .later }
def LayoutPathsCardSaid : Prop := Claim7.holds Tryd.pinned (.plain (OpenSpec.ofChange layoutPathsSpec)) layoutPathsCard

/-- THE SECOND FORM's CARD OF 'solenoidlaw8.LayoutPlaces'. -/
def layoutPlacesUptoCard : Claim7 := { stood := { row := layoutPlacesUptoRow, standIns := [], harness := (true, "1b2838f4a1ff6d45812d4e7ec04f17f17c6e03a92aeac00e7f1d9ae2b34c9d1e"), looks := false }, kinds := [], alts := [], laidByText := true, laidKinds := [.data, .data, .data], laidTests := true, laidLooks := .later }
def LayoutPlacesUptoCardSaid : Prop := Claim7.holds Tryd.pinned (.plain (OpenSpec.upto layoutPlacesSpec)) layoutPlacesUptoCard

/-- THE SECOND FORM's CARD OF 'solenoidlaw8.LayoutPaths'. -/
def layoutPathsUptoCard : Claim7 := { stood := { row := layoutPathsUptoRow, standIns := [], harness := (true, "1b2838f4a1ff6d45812d4e7ec04f17f17c6e03a92aeac00e7f1d9ae2b34c9d1e"), looks := false }, kinds := [], alts := [], laidByText := true, laidKinds := [.data, .data, .data], laidTests := true, laidLooks := .later }
def LayoutPathsUptoCardSaid : Prop := Claim7.holds Tryd.pinned (.plain (OpenSpec.upto layoutPathsSpec)) layoutPathsUptoCard
end Rows
end Go.Proofs.YtgeeicgdgncmpaaDoor
