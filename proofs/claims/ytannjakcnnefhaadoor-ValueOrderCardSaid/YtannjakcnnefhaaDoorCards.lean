/-
  DERIVED. GIVEN WITH THE SEED: THE CARDS: each row of YtannjakcnnefhaaDoorRows.lean that lists a variable, with what it lists TIED to the program's text (the seventh form; the later family's looks); each row that meets fmt, with fmt's text TOLD by the authors' own Lean function (tested against real Go, not proved from fmt's source: count such statements apart). THE CARD IS WHAT COUNTS. Prove the row's statement (the work); the ties are given (YtannjakcnnefhaaDoorTie.lean); close each card by the builder's one call (the guide's Derived/Test/ToyasCard.lean, 'card_holds'). Laid BY PROGRAM, IN A SANDBOX (cutbox-door.mjs). By AI agents, Wed Nov 11 2026. No macro, syntax, notation, axiom, sorry.
-/
import Derived.Test.YtannjakcnnefhaaDoorRows
import GoSem.ClaimSeven
namespace Go.Proofs.YtannjakcnnefhaaDoor
namespace Rows

/-- THE TIED CARD OF 'flagstonelaw3.ValueVersions'. -/
def valueVersionsCard : Claim7 := { stood := { row := valueVersionsRow, standIns := [], harness := (true, "69f9f92eb64e4ba8e9014f216f66c01ccb5732e7ec2f3047bb225244719707ea"), looks := true }, kinds := [], alts := [], laidByText := true, laidKinds := [.data, .data, .data, .data, .sentinel, .sentinel, .pinned], laidTests := true, laidLooks := .later }
def ValueVersionsCardSaid : Prop := Claim7.holds Tryd.pinned (.plain (OpenSpec.ofChange valueVersionsSpec)) valueVersionsCard

/-- THE TIED CARD OF 'flagstonelaw3.ValueOrder'. -/
def valueOrderCard : Claim7 := { stood := { row := valueOrderRow, standIns := [], harness := (true, "69f9f92eb64e4ba8e9014f216f66c01ccb5732e7ec2f3047bb225244719707ea"), looks := true }, kinds := [], alts := [], laidByText := true, laidKinds := [.data, .data, .data, .data, .data, .data, .widerDeep, .sentinel, .sentinel, .pinned], laidTests := true, laidLooks := .later }
def ValueOrderCardSaid : Prop := Claim7.holds Tryd.pinned (.plain (OpenSpec.ofChange valueOrderSpec)) valueOrderCard

/-- THE TIED CARD OF 'flagstonelaw3.ValueParts'. -/
def valuePartsCard : Claim7 := { stood := { row := valuePartsRow, standIns := [], harness := (true, "69f9f92eb64e4ba8e9014f216f66c01ccb5732e7ec2f3047bb225244719707ea"), looks := true }, kinds := [], alts := [], laidByText := true, laidKinds := [.data, .data, .data, .data, .sentinel, .sentinel, .widerDeep, .pinned], laidTests := true, laidLooks := .later }
def ValuePartsCardSaid : Prop := Claim7.holds Tryd.pinned (.plain (OpenSpec.ofChange valuePartsSpec)) valuePartsCard

/-- THE SECOND FORM's CARD OF 'flagstonelaw3.ValueVersions'. -/
def valueVersionsUptoCard : Claim7 := { stood := { row := valueVersionsUptoRow, standIns := [], harness := (true, "69f9f92eb64e4ba8e9014f216f66c01ccb5732e7ec2f3047bb225244719707ea"), looks := true }, kinds := [], alts := [], laidByText := true, laidKinds := [.data, .data, .data, .data, .sentinel, .sentinel, .pinned], laidTests := true, laidLooks := .later }
def ValueVersionsUptoCardSaid : Prop := Claim7.holds Tryd.pinned (.plain (OpenSpec.upto valueVersionsSpec)) valueVersionsUptoCard

/-- THE SECOND FORM's CARD OF 'flagstonelaw3.ValueOrder'. -/
def valueOrderUptoCard : Claim7 := { stood := { row := valueOrderUptoRow, standIns := [], harness := (true, "69f9f92eb64e4ba8e9014f216f66c01ccb5732e7ec2f3047bb225244719707ea"), looks := true }, kinds := [], alts := [], laidByText := true, laidKinds := [.data, .data, .data, .data, .data, .data, .widerDeep, .sentinel, .sentinel, .pinned], laidTests := true, laidLooks := .later }
def ValueOrderUptoCardSaid : Prop := Claim7.holds Tryd.pinned (.plain (OpenSpec.upto valueOrderSpec)) valueOrderUptoCard

/-- THE SECOND FORM's CARD OF 'flagstonelaw3.ValueParts'. -/
def valuePartsUptoCard : Claim7 := { stood := { row := valuePartsUptoRow, standIns := [], harness := (true, "69f9f92eb64e4ba8e9014f216f66c01ccb5732e7ec2f3047bb225244719707ea"), looks := true }, kinds := [], alts := [], laidByText := true, laidKinds := [.data, .data, .data, .data, .sentinel, .sentinel, .widerDeep, .pinned], laidTests := true, laidLooks := .later }
def ValuePartsUptoCardSaid : Prop := Claim7.holds Tryd.pinned (.plain (OpenSpec.upto valuePartsSpec)) valuePartsUptoCard
end Rows
end Go.Proofs.YtannjakcnnefhaaDoor
