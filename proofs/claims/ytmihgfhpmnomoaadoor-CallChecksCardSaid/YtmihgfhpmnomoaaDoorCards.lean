/-
  DERIVED. GIVEN WITH THE SEED: THE CARDS: each row of YtmihgfhpmnomoaaDoorRows.lean that lists a variable, with what it lists TIED to the program's text (the seventh form; the later family's looks); each row that meets fmt, with fmt's text TOLD by the authors' own Lean function (tested against real Go, not proved from fmt's source: count such statements apart). THE CARD IS WHAT COUNTS. Prove the row's statement (the work); the ties are given (YtmihgfhpmnomoaaDoorTie.lean); close each card by the builder's one call (the guide's Derived/Test/ToyasCard.lean, 'card_holds'). Laid BY PROGRAM, IN A SANDBOX (cutbox-door.mjs). By AI agents, Wed Nov 11 2026. No macro, syntax, notation, axiom, sorry.
-/
import Derived.Test.YtmihgfhpmnomoaaDoorRows
import GoSem.ClaimSeven
namespace Go.Proofs.YtmihgfhpmnomoaaDoor
namespace Rows

/-- THE TIED CARD OF 'purlinlaw21.CallNames'. -/
def callNamesCard : Claim7 := { stood := { row := callNamesRow, standIns := [], harness := (true, "aceb7a31b6e6f7d40c1422868a1e39fcca0b5679dd0d1a5bba54a569846cced7"), looks := true }, kinds := [], alts := [], laidByText := true, laidKinds := [.data, .data, .data, .sentinel, .sentinel, .data, .data, .data, .data], laidTests := true, laidLooks := .later }
def CallNamesCardSaid : Prop := Claim7.holds Tryd.pinned (.plain (OpenSpec.ofChange callNamesSpec)) callNamesCard

/-- THE TIED CARD OF 'purlinlaw21.CallShows'. -/
def callShowsCard : Claim7 := { stood := { row := callShowsRow, standIns := [], harness := (true, "aceb7a31b6e6f7d40c1422868a1e39fcca0b5679dd0d1a5bba54a569846cced7"), looks := true }, kinds := [], alts := [], laidByText := true, laidKinds := [.data, .data, .data, .sentinel, .sentinel, .data, .data, .data, .data], laidTests := true, laidLooks := .later }
def CallShowsCardSaid : Prop := Claim7.holds Tryd.pinned (.plain (OpenSpec.ofChange callShowsSpec)) callShowsCard

/-- THE TIED CARD OF 'purlinlaw21.CallParses'. -/
def callParsesCard : Claim7 := { stood := { row := callParsesRow, standIns := [], harness := (true, "aceb7a31b6e6f7d40c1422868a1e39fcca0b5679dd0d1a5bba54a569846cced7"), looks := true }, kinds := [], alts := [], laidByText := true, laidKinds := [.data, .data, .data, .sentinel, .sentinel, .data, .data, .data, .data], laidTests := true, laidLooks := .later }
def CallParsesCardSaid : Prop := Claim7.holds Tryd.pinned (.plain (OpenSpec.ofChange callParsesSpec)) callParsesCard

/-- THE TIED CARD OF 'purlinlaw21.CallBack'. -/
def callBackCard : Claim7 := { stood := { row := callBackRow, standIns := [], harness := (true, "aceb7a31b6e6f7d40c1422868a1e39fcca0b5679dd0d1a5bba54a569846cced7"), looks := true }, kinds := [], alts := [], laidByText := true, laidKinds := [.data, .data, .data, .sentinel, .sentinel, .data, .data, .data, .data], laidTests := true, laidLooks := .later }
def CallBackCardSaid : Prop := Claim7.holds Tryd.pinned (.plain (OpenSpec.ofChange callBackSpec)) callBackCard

/-- THE TIED CARD OF 'purlinlaw21.CallChecks'. -/
def callChecksCard : Claim7 := { stood := { row := callChecksRow, standIns := [], harness := (true, "aceb7a31b6e6f7d40c1422868a1e39fcca0b5679dd0d1a5bba54a569846cced7"), looks := true }, kinds := [], alts := [], laidByText := true, laidKinds := [.data, .data, .data, .sentinel, .sentinel, .data, .data, .data, .data], laidTests := true, laidLooks := .later }
def CallChecksCardSaid : Prop := Claim7.holds Tryd.pinned (.plain (OpenSpec.ofChange callChecksSpec)) callChecksCard

/-- THE TIED CARD OF 'purlinlaw21.CallRights'. -/
def callRightsCard : Claim7 := { stood := { row := callRightsRow, standIns := [], harness := (true, "aceb7a31b6e6f7d40c1422868a1e39fcca0b5679dd0d1a5bba54a569846cced7"), looks := true }, kinds := [], alts := [], laidByText := true, laidKinds := [.data, .data, .data, .sentinel, .sentinel, .data, .data, .data, .data], laidTests := true, laidLooks := .later }
def CallRightsCardSaid : Prop := Claim7.holds Tryd.pinned (.plain (OpenSpec.ofChange callRightsSpec)) callRightsCard

/-- THE SECOND FORM's CARD OF 'purlinlaw21.CallNames'. -/
def callNamesUptoCard : Claim7 := { stood := { row := callNamesUptoRow, standIns := [], harness := (true, "aceb7a31b6e6f7d40c1422868a1e39fcca0b5679dd0d1a5bba54a569846cced7"), looks := true }, kinds := [], alts := [], laidByText := true, laidKinds := [.data, .data, .data, .sentinel, .sentinel, .data, .data, .data, .data], laidTests := true, laidLooks := .later }
def CallNamesUptoCardSaid : Prop := Claim7.holds Tryd.pinned (.plain (OpenSpec.upto callNamesSpec)) callNamesUptoCard

/-- THE SECOND FORM's CARD OF 'purlinlaw21.CallShows'. -/
def callShowsUptoCard : Claim7 := { stood := { row := callShowsUptoRow, standIns := [], harness := (true, "aceb7a31b6e6f7d40c1422868a1e39fcca0b5679dd0d1a5bba54a569846cced7"), looks := true }, kinds := [], alts := [], laidByText := true, laidKinds := [.data, .data, .data, .sentinel, .sentinel, .data, .data, .data, .data], laidTests := true, laidLooks := .later }
def CallShowsUptoCardSaid : Prop := Claim7.holds Tryd.pinned (.plain (OpenSpec.upto callShowsSpec)) callShowsUptoCard

/-- THE SECOND FORM's CARD OF 'purlinlaw21.CallParses'. -/
def callParsesUptoCard : Claim7 := { stood := { row := callParsesUptoRow, standIns := [], harness := (true, "aceb7a31b6e6f7d40c1422868a1e39fcca0b5679dd0d1a5bba54a569846cced7"), looks := true }, kinds := [], alts := [], laidByText := true, laidKinds := [.data, .data, .data, .sentinel, .sentinel, .data, .data, .data, .data], laidTests := true, laidLooks := .later }
def CallParsesUptoCardSaid : Prop := Claim7.holds Tryd.pinned (.plain (OpenSpec.upto callParsesSpec)) callParsesUptoCard

/-- THE SECOND FORM's CARD OF 'purlinlaw21.CallBack'. -/
def callBackUptoCard : Claim7 := { stood := { row := callBackUptoRow, standIns := [], harness := (true, "aceb7a31b6e6f7d40c1422868a1e39fcca0b5679dd0d1a5bba54a569846cced7"), looks := true }, kinds := [], alts := [], laidByText := true, laidKinds := [.data, .data, .data, .sentinel, .sentinel, .data, .data, .data, .data], laidTests := true, laidLooks := .later }
def CallBackUptoCardSaid : Prop := Claim7.holds Tryd.pinned (.plain (OpenSpec.upto callBackSpec)) callBackUptoCard

/-- THE SECOND FORM's CARD OF 'purlinlaw21.CallChecks'. -/
def callChecksUptoCard : Claim7 := { stood := { row := callChecksUptoRow, standIns := [], harness := (true, "aceb7a31b6e6f7d40c1422868a1e39fcca0b5679dd0d1a5bba54a569846cced7"), looks := true }, kinds := [], alts := [], laidByText := true, laidKinds := [.data, .data, .data, .sentinel, .sentinel, .data, .data, .data, .data], laidTests := true, laidLooks := .later }
def CallChecksUptoCardSaid : Prop := Claim7.holds Tryd.pinned (.plain (OpenSpec.upto callChecksSpec)) callChecksUptoCard

/-- THE SECOND FORM's CARD OF 'purlinlaw21.CallRights'. -/
def callRightsUptoCard : Claim7 := { stood := { row := callRightsUptoRow, standIns := [], harness := (true, "aceb7a31b6e6f7d40c1422868a1e39fcca0b5679dd0d1a5bba54a569846cced7"), looks := true }, kinds := [], alts := [], laidByText := true, laidKinds := [.data, .data, .data, .sentinel, .sentinel, .data, .data, .data, .data], laidTests := true, laidLooks := .later }
def CallRightsUptoCardSaid : Prop := Claim7.holds Tryd.pinned (.plain (OpenSpec.upto callRightsSpec)) callRightsUptoCard
end Rows
end Go.Proofs.YtmihgfhpmnomoaaDoor
