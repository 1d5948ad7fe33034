/-
  DERIVED. GIVEN WITH THE SEED: THE CARDS: each row of YtklpamhhbigjfaaDoorRows.lean that lists a variable, with what it lists TIED to the program's text (the seventh form; the later family's looks); each row that meets fmt, with fmt's text TOLD by the authors' own Lean function (tested against real Go, not proved from fmt's source: count such statements apart). THE CARD IS WHAT COUNTS. Prove the row's statement (the work); the ties are given (YtklpamhhbigjfaaDoorTie.lean); close each card by the builder's one call (the guide's Derived/Test/ToyasCard.lean, 'card_holds'). Laid BY PROGRAM, IN A SANDBOX (cutbox-door.mjs). By AI agents, Wed Nov 11 2026. No macro, syntax, notation, axiom, sorry.
-/
import Derived.Test.YtklpamhhbigjfaaDoorRows
import GoSem.ClaimSeven
namespace Go.Proofs.YtklpamhhbigjfaaDoor
namespace Rows

/-- THE TIED CARD OF 'dasdlaw47.ChangeValid'. -/
def changeValidCard : Claim7 := { stood := { row := changeValidRow, standIns := [], harness := (true, "f0e0befcaea5c96aab8cf126a5e4713cf7db9dcaf5fdd301df87824442029605"), looks := false }, kinds := [], alts := [], laidByText := true, laidKinds := [.data, .data, .data], laidTests := true, laidLooks := .later }
def ChangeValidCardSaid : Prop := Claim7.holds Tryd.pinned (.plain (OpenSpec.ofChange changeValidSpec)) changeValidCard

/-- THE TIED CARD OF 'dasdlaw47.ChangeDecodes'. -/
def changeDecodesCard : Claim7 := { stood := { row := changeDecodesRow, standIns := [], harness := (true, "f0e0befcaea5c96aab8cf126a5e4713cf7db9dcaf5fdd301df87824442029605"), looks := false }, kinds := [], alts := [], laidByText := true, laidKinds := [.data, .data, .data], laidTests := true, laidLooks := .later }
def ChangeDecodesCardSaid : Prop := Claim7.holds Tryd.pinned (.plain (OpenSpec.ofChange changeDecodesSpec)) changeDecodesCard

/-- THE TIED CARD OF 'dasdlaw47.ChangeIds'. -/
def changeIdsCard : Claim7 := { stood := { row := changeIdsRow, standIns := [], harness := (true, "f0e0befcaea5c96aab8cf126a5e4713cf7db9dcaf5fdd301df87824442029605"), looks := false }, kinds := [], alts := [], laidByText := true, laidKinds := [.data, .data, .data], laidTests := true, laidLooks := .later }
def ChangeIdsCardSaid : Prop := Claim7.holds Tryd.pinned (.plain (OpenSpec.ofChange changeIdsSpec)) changeIdsCard

/-- THE TIED CARD OF 'dasdlaw47.ChangeEncodes'. -/
def changeEncodesCard : Claim7 := { stood := { row := changeEncodesRow, standIns := [], harness := (true, "f0e0befcaea5c96aab8cf126a5e4713cf7db9dcaf5fdd301df87824442029605"), looks := false }, kinds := [], alts := [], laidByText := true, laidKinds := [.data, .data, .data], laidTests := true, laidLooks := .later }
def ChangeEncodesCardSaid : Prop := Claim7.holds Tryd.pinned (.plain (OpenSpec.ofChange changeEncodesSpec)) changeEncodesCard

/-- THE TIED CARD OF 'dasdlaw47.ChangeUnits'. -/
def changeUnitsCard : Claim7 := { stood := { row := changeUnitsRow, standIns := [], harness := (true, "f0e0befcaea5c96aab8cf126a5e4713cf7db9dcaf5fdd301df87824442029605"), looks := false }, kinds := [], alts := [], laidByText := true, laidKinds := [.data, .data, .data], laidTests := true, laidLooks := .later }
def ChangeUnitsCardSaid : Prop := Claim7.holds Tryd.pinned (.plain (OpenSpec.ofChange changeUnitsSpec)) changeUnitsCard

/-- THE TIED CARD OF 'dasdlaw47.ChangeParses'. -/
def changeParsesCard : Claim7 := { stood := { row := changeParsesRow, standIns := [], harness := (true, "f0e0befcaea5c96aab8cf126a5e4713cf7db9dcaf5fdd301df87824442029605"), looks := false }, kinds := [], alts := [], laidByText := true, laidKinds := [.data, .data, .data], laidTests := true, laidLooks := .later }
def ChangeParsesCardSaid : Prop := Claim7.holds Tryd.pinned (.plain (OpenSpec.ofChange changeParsesSpec)) changeParsesCard

/-- THE TIED CARD OF 'dasdlaw47.ChangeParts'. -/
def changePartsCard : Claim7 := { stood := { row := changePartsRow, standIns := [], harness := (true, "f0e0befcaea5c96aab8cf126a5e4713cf7db9dcaf5fdd301df87824442029605"), looks := false }, kinds := [], alts := [], laidByText := true, laidKinds := [.data, .data, .data], laidTests := true, laidLooks := .later }
def ChangePartsCardSaid : Prop := Claim7.holds Tryd.pinned (.plain (OpenSpec.ofChange changePartsSpec)) changePartsCard

/-- THE SECOND FORM's CARD OF 'dasdlaw47.ChangeValid'. -/
def changeValidUptoCard : Claim7 := { stood := { row := changeValidUptoRow, standIns := [], harness := (true, "f0e0befcaea5c96aab8cf126a5e4713cf7db9dcaf5fdd301df87824442029605"), looks := false }, kinds := [], alts := [], laidByText := true, laidKinds := [.data, .data, .data], laidTests := true, laidLooks := .later }
def ChangeValidUptoCardSaid : Prop := Claim7.holds Tryd.pinned (.plain (OpenSpec.upto changeValidSpec)) changeValidUptoCard

/-- THE SECOND FORM's CARD OF 'dasdlaw47.ChangeDecodes'. -/
def changeDecodesUptoCard : Claim7 := { stood := { row := changeDecodesUptoRow, standIns := [], harness := (true, "f0e0befcaea5c96aab8cf126a5e4713cf7db9dcaf5fdd301df87824442029605"), looks := false }, kinds := [], alts := [], laidByText := true, laidKinds := [.data, .data, .data], laidTests := true, laidLooks := .later }
def ChangeDecodesUptoCardSaid : Prop := Claim7.holds Tryd.pinned (.plain (OpenSpec.upto changeDecodesSpec)) changeDecodesUptoCard

/-- THE SECOND FORM's CARD OF 'dasdlaw47.ChangeIds'. -/
def changeIdsUptoCard : Claim7 := { stood := { row := changeIdsUptoRow, standIns := [], harness := (true, "f0e0befcaea5c96aab8cf126a5e4713cf7db9dcaf5fdd301df87824442029605"), looks := false }, kinds := [], alts := [], laidByText := true, laidKinds := [.data, .data, .data], laidTests := true, laidLooks := .later }
def ChangeIdsUptoCardSaid : Prop := Claim7.holds Tryd.pinned (.plain (OpenSpec.upto changeIdsSpec)) changeIdsUptoCard

/-- THE SECOND FORM's CARD OF 'dasdlaw47.ChangeEncodes'. -/
def changeEncodesUptoCard : Claim7 := { stood := { row := changeEncodesUptoRow, standIns := [], harness := (true, "f0e0befcaea5c96aab8cf126a5e4713cf7db9dcaf5fdd301df87824442029605"), looks := false }, kinds := [], alts := [], laidByText := true, laidKinds := [.data, .data, .data], laidTests := true, laidLooks := .later }
def ChangeEncodesUptoCardSaid : Prop := Claim7.holds Tryd.pinned (.plain (OpenSpec.upto changeEncodesSpec)) changeEncodesUptoCard

/-- THE SECOND FORM's CARD OF 'dasdlaw47.ChangeUnits'. -/
def changeUnitsUptoCard : Claim7 := { stood := { row := changeUnitsUptoRow, standIns := [], harness := (true, "f0e0befcaea5c96aab8cf126a5e4713cf7db9dcaf5fdd301df87824442029605"), looks := false }, kinds := [], alts := [], laidByText := true, laidKinds := [.data, .data, .data], laidTests := true, laidLooks := .later }
def ChangeUnitsUptoCardSaid : Prop := Claim7.holds Tryd.pinned (.plain (OpenSpec.upto changeUnitsSpec)) changeUnitsUptoCard

/-- THE SECOND FORM's CARD OF 'dasdlaw47.ChangeParses'. -/
def changeParsesUptoCard : Claim7 := { stood := { row := changeParsesUptoRow, standIns := [], harness := (true, "f0e0befcaea5c96aab8cf126a5e4713cf7db9dcaf5fdd301df87824442029605"), looks := false }, kinds := [], alts := [], laidByText := true, laidKinds := [.data, .data, .data], laidTests := true, laidLooks := .later }
def ChangeParsesUptoCardSaid : Prop := Claim7.holds Tryd.pinned (.plain (OpenSpec.upto changeParsesSpec)) changeParsesUptoCard

/-- THE SECOND FORM's CARD OF 'dasdlaw47.ChangeParts'. -/
def changePartsUptoCard : Claim7 := { stood := { row := changePartsUptoRow, standIns := [], harness := (true, "f0e0befcaea5c96aab8cf126a5e4713cf7db9dcaf5fdd301df87824442029605"), looks := false }, kinds := [], alts := [], laidByText := true, laidKinds := [.data, .data, .data], laidTests := true, laidLooks := .later }
def ChangePartsUptoCardSaid : Prop := Claim7.holds Tryd.pinned (.plain (OpenSpec.upto changePartsSpec)) changePartsUptoCard
end Rows
end Go.Proofs.YtklpamhhbigjfaaDoor
