/-
  DERIVED. GIVEN WITH THE SEED: THE CARDS: each row of YtannjakcnnefhaaGreatDoorRows.lean that lists a variable, with what it lists TIED to the program's text (the seventh form; the later family's looks); each row that meets fmt, with fmt's text TOLD by the authors' own Lean function (tested against real Go, not proved from fmt's source: count such statements apart). THE CARD IS WHAT COUNTS. Prove the row's statement (the work); the ties are given (YtannjakcnnefhaaGreatDoorTie.lean); close each card by the builder's one call (the guide's Derived/Test/ToyasCard.lean, 'card_holds'). Laid BY PROGRAM, IN A SANDBOX (cutbox-door.mjs). By AI agents, Wed Nov 11 2026. No macro, syntax, notation, axiom, sorry.
-/
import Derived.Test.YtannjakcnnefhaaGreatDoorRows
import GoSem.ClaimSeven
namespace Go.Proofs.YtannjakcnnefhaaGreatDoor
namespace Rows

/-- THE TIED CARD OF 'flagstonelaw3.ValueChecks'. -/
def valueChecksCard : Claim7 := { stood := { row := valueChecksRow, standIns := [], harness := (true, "0676e98a0f17de96a0f1a5a547ccc431d245eb6b05dd25c9db6e0042fe6a9556"), looks := true }, kinds := [], alts := [], laidByText := true, laidKinds := [.data, .data, .data, .data, .data, .data, .widerDeep, .sentinel, .sentinel, .pinned], laidTests := true, laidLooks := .later }
def ValueChecksCardSaid : Prop := Claim7.holds Tryz.pinned (.plain (OpenSpec.ofChange valueChecksSpec)) valueChecksCard

/-- THE TIED CARD OF 'flagstonelaw3.ValueFormats'. -/
def valueFormatsCard : Claim7 := { stood := { row := valueFormatsRow, standIns := [], harness := (true, "0676e98a0f17de96a0f1a5a547ccc431d245eb6b05dd25c9db6e0042fe6a9556"), looks := true }, kinds := [], alts := [], laidByText := true, laidKinds := [.data, .data, .data, .data, .data, .data, .widerDeep, .sentinel, .sentinel, .pinned], laidTests := true, laidLooks := .later }
def ValueFormatsCardSaid : Prop := Claim7.holds Tryz.pinned (.plain (OpenSpec.ofChange valueFormatsSpec)) valueFormatsCard

/-- THE TIED CARD OF 'flagstonelaw3.ValueParses'. -/
def valueParsesCard : Claim7 := { stood := { row := valueParsesRow, standIns := [], harness := (true, "0676e98a0f17de96a0f1a5a547ccc431d245eb6b05dd25c9db6e0042fe6a9556"), looks := true }, kinds := [], alts := [], laidByText := true, laidKinds := [.data, .data, .data, .data, .data, .data, .widerDeep, .sentinel, .sentinel, .pinned], laidTests := true, laidLooks := .later }
def ValueParsesCardSaid : Prop := Claim7.holds Tryz.pinned (.plain (OpenSpec.ofChange valueParsesSpec)) valueParsesCard

/-- THE TIED CARD OF 'flagstonelaw3.ValueCompares'. -/
def valueComparesCard : Claim7 := { stood := { row := valueComparesRow, standIns := [], harness := (true, "0676e98a0f17de96a0f1a5a547ccc431d245eb6b05dd25c9db6e0042fe6a9556"), looks := true }, kinds := [], alts := [], laidByText := true, laidKinds := [.data, .data, .data, .data, .data, .data, .widerDeep, .sentinel, .sentinel, .pinned], laidTests := true, laidLooks := .later }
def ValueComparesCardSaid : Prop := Claim7.holds Tryz.pinned (.plain (OpenSpec.ofChange valueComparesSpec)) valueComparesCard

/-- THE SECOND FORM's CARD OF 'flagstonelaw3.ValueChecks'. -/
def valueChecksUptoCard : Claim7 := { stood := { row := valueChecksUptoRow, standIns := [], harness := (true, "0676e98a0f17de96a0f1a5a547ccc431d245eb6b05dd25c9db6e0042fe6a9556"), looks := true }, kinds := [], alts := [], laidByText := true, laidKinds := [.data, .data, .data, .data, .data, .data, .widerDeep, .sentinel, .sentinel, .pinned], laidTests := true, laidLooks := .later }
def ValueChecksUptoCardSaid : Prop := Claim7.holds Tryz.pinned (.plain (OpenSpec.upto valueChecksSpec)) valueChecksUptoCard

/-- THE SECOND FORM's CARD OF 'flagstonelaw3.ValueFormats'. -/
def valueFormatsUptoCard : Claim7 := { stood := { row := valueFormatsUptoRow, standIns := [], harness := (true, "0676e98a0f17de96a0f1a5a547ccc431d245eb6b05dd25c9db6e0042fe6a9556"), looks := true }, kinds := [], alts := [], laidByText := true, laidKinds := [.data, .data, .data, .data, .data, .data, .widerDeep, .sentinel, .sentinel, .pinned], laidTests := true, laidLooks := .later }
def ValueFormatsUptoCardSaid : Prop := Claim7.holds Tryz.pinned (.plain (OpenSpec.upto valueFormatsSpec)) valueFormatsUptoCard

/-- THE SECOND FORM's CARD OF 'flagstonelaw3.ValueParses'. -/
def valueParsesUptoCard : Claim7 := { stood := { row := valueParsesUptoRow, standIns := [], harness := (true, "0676e98a0f17de96a0f1a5a547ccc431d245eb6b05dd25c9db6e0042fe6a9556"), looks := true }, kinds := [], alts := [], laidByText := true, laidKinds := [.data, .data, .data, .data, .data, .data, .widerDeep, .sentinel, .sentinel, .pinned], laidTests := true, laidLooks := .later }
def ValueParsesUptoCardSaid : Prop := Claim7.holds Tryz.pinned (.plain (OpenSpec.upto valueParsesSpec)) valueParsesUptoCard

/-- THE SECOND FORM's CARD OF 'flagstonelaw3.ValueCompares'. -/
def valueComparesUptoCard : Claim7 := { stood := { row := valueComparesUptoRow, standIns := [], harness := (true, "0676e98a0f17de96a0f1a5a547ccc431d245eb6b05dd25c9db6e0042fe6a9556"), looks := true }, kinds := [], alts := [], laidByText := true, laidKinds := [.data, .data, .data, .data, .data, .data, .widerDeep, .sentinel, .sentinel, .pinned], laidTests := true, laidLooks := .later }
def ValueComparesUptoCardSaid : Prop := Claim7.holds Tryz.pinned (.plain (OpenSpec.upto valueComparesSpec)) valueComparesUptoCard
end Rows
end Go.Proofs.YtannjakcnnefhaaGreatDoor
