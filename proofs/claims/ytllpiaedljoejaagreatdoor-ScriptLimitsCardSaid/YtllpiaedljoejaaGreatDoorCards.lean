/-
  DERIVED. GIVEN WITH THE SEED: THE CARDS: each row of YtllpiaedljoejaaGreatDoorRows.lean that lists a variable, with what it lists TIED to the program's text (the seventh form; the later family's looks); each row that meets fmt, with fmt's text TOLD by the authors' own Lean function (tested against real Go, not proved from fmt's source: count such statements apart). THE CARD IS WHAT COUNTS. Prove the row's statement (the work); the ties are given (YtllpiaedljoejaaGreatDoorTie.lean); close each card by the builder's one call (the guide's Derived/Test/ToyasCard.lean, 'card_holds'). Laid BY PROGRAM, IN A SANDBOX (cutbox-door.mjs). By AI agents, Wed Nov 11 2026. No macro, syntax, notation, axiom, sorry.
-/
import Derived.Test.YtllpiaedljoejaaGreatDoorRows
import GoSem.ClaimSeven
namespace Go.Proofs.YtllpiaedljoejaaGreatDoor
namespace Rows

/-- THE TIED CARD OF 'purlinlaw27.ScriptLimits'. -/
def scriptLimitsCard : Claim7 := { stood := { row := scriptLimitsRow, standIns := [], harness := (true, "3594df3a6997c2797e3f57a9437149a957cd68b972b686a699bbd328d203fedf"), looks := true }, kinds := [], alts := [], laidByText := true, laidKinds := [.data, .data, .data, .data, .handle, .sentinel, .sentinel, .data, .data, .data, .data, .data, .pinned], laidTests := true, laidLooks := .later }
def ScriptLimitsCardSaid : Prop := Claim7.holds Tryz.pinned (.plain (OpenSpec.ofChange scriptLimitsSpec)) scriptLimitsCard

/-- THE TIED CARD OF 'purlinlaw27.ScriptHex'. -/
def scriptHexCard : Claim7 := { stood := { row := scriptHexRow, standIns := [], harness := (true, "3594df3a6997c2797e3f57a9437149a957cd68b972b686a699bbd328d203fedf"), looks := true }, kinds := [], alts := [], laidByText := true, laidKinds := [.data, .data, .data, .data, .handle, .sentinel, .sentinel, .data, .data, .data, .data, .data, .pinned], laidTests := true, laidLooks := .later }
def ScriptHexCardSaid : Prop := Claim7.holds Tryz.pinned (.plain (OpenSpec.ofChange scriptHexSpec)) scriptHexCard

/-- THE SECOND FORM's CARD OF 'purlinlaw27.ScriptLimits'. -/
def scriptLimitsUptoCard : Claim7 := { stood := { row := scriptLimitsUptoRow, standIns := [], harness := (true, "3594df3a6997c2797e3f57a9437149a957cd68b972b686a699bbd328d203fedf"), looks := true }, kinds := [], alts := [], laidByText := true, laidKinds := [.data, .data, .data, .data, .handle, .sentinel, .sentinel, .data, .data, .data, .data, .data, .pinned], laidTests := true, laidLooks := .later }
def ScriptLimitsUptoCardSaid : Prop := Claim7.holds Tryz.pinned (.plain (OpenSpec.upto scriptLimitsSpec)) scriptLimitsUptoCard

/-- THE SECOND FORM's CARD OF 'purlinlaw27.ScriptHex'. -/
def scriptHexUptoCard : Claim7 := { stood := { row := scriptHexUptoRow, standIns := [], harness := (true, "3594df3a6997c2797e3f57a9437149a957cd68b972b686a699bbd328d203fedf"), looks := true }, kinds := [], alts := [], laidByText := true, laidKinds := [.data, .data, .data, .data, .handle, .sentinel, .sentinel, .data, .data, .data, .data, .data, .pinned], laidTests := true, laidLooks := .later }
def ScriptHexUptoCardSaid : Prop := Claim7.holds Tryz.pinned (.plain (OpenSpec.upto scriptHexSpec)) scriptHexUptoCard
end Rows
end Go.Proofs.YtllpiaedljoejaaGreatDoor
