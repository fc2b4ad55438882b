/-
  DERIVED. GIVEN WITH THE SEED: THE CARDS: each row of YtagaihiemomelaaDoorRows.lean that lists a variable, with what it lists TIED to the program's text (the seventh form; the later family's looks); each row that meets fmt, with fmt's text TOLD by the authors' own Lean function (tested against real Go, not proved from fmt's source: count such statements apart). THE CARD IS WHAT COUNTS. Prove the row's statement (the work); the ties are given (YtagaihiemomelaaDoorTie.lean); close each card by the builder's one call (the guide's Derived/Test/ToyasCard.lean, 'card_holds'). Laid BY PROGRAM, IN A SANDBOX (cutbox-door.mjs). By AI agents, Wed Nov 11 2026. No macro, syntax, notation, axiom, sorry.
-/
import Derived.Test.YtagaihiemomelaaDoorRows
import GoSem.ClaimSeven
namespace Go.Proofs.YtagaihiemomelaaDoor
namespace Rows

/-- THE TIED CARD OF 'grommetlaw02.NameReads'. -/
def nameReadsCard : Claim7 := { stood := { row := nameReadsRow, standIns := [], harness := (true, "8c502c3f33f29163ca08ec69f7cb6b59d05f978e785f641da53179fefa85ecdd"), looks := true }, kinds := [], alts := [], laidByText := true, laidKinds := [.handle], laidTests := true, laidLooks := .later }
def NameReadsCardSaid : Prop := Claim7.holds Tryd.pinned (.plain (OpenSpec.ofChange nameReadsSpec)) nameReadsCard

/-- THE TIED CARD OF 'grommetlaw02.NameParts'. -/
def namePartsCard : Claim7 := { stood := { row := namePartsRow, standIns := [], harness := (true, "8c502c3f33f29163ca08ec69f7cb6b59d05f978e785f641da53179fefa85ecdd"), looks := true }, kinds := [], alts := [], laidByText := true, laidKinds := [.handle], laidTests := true, laidLooks := .later }
def NamePartsCardSaid : Prop := Claim7.holds Tryd.pinned (.plain (OpenSpec.ofChange namePartsSpec)) namePartsCard

/-- THE TIED CARD OF 'grommetlaw02.NameStays'. -/
def nameStaysCard : Claim7 := { stood := { row := nameStaysRow, standIns := [], harness := (true, "8c502c3f33f29163ca08ec69f7cb6b59d05f978e785f641da53179fefa85ecdd"), looks := true }, kinds := [], alts := [], laidByText := true, laidKinds := [.handle], laidTests := true, laidLooks := .later }
def NameStaysCardSaid : Prop := Claim7.holds Tryd.pinned (.plain (OpenSpec.ofChange nameStaysSpec)) nameStaysCard

/-- THE TIED CARD OF 'grommetlaw02.NamePuts'. -/
def namePutsCard : Claim7 := { stood := { row := namePutsRow, standIns := [], harness := (true, "8c502c3f33f29163ca08ec69f7cb6b59d05f978e785f641da53179fefa85ecdd"), looks := true }, kinds := [], alts := [], laidByText := true, laidKinds := [.handle], laidTests := true, laidLooks := .later }
def NamePutsCardSaid : Prop := Claim7.holds Tryd.pinned (.plain (OpenSpec.ofChange namePutsSpec)) namePutsCard

/-- THE TIED CARD OF 'grommetlaw02.NameBack'. -/
def nameBackCard : Claim7 := { stood := { row := nameBackRow, standIns := [], harness := (true, "8c502c3f33f29163ca08ec69f7cb6b59d05f978e785f641da53179fefa85ecdd"), looks := true }, kinds := [], alts := [], laidByText := true, laidKinds := [.handle], laidTests := true, laidLooks := .later }
def NameBackCardSaid : Prop := Claim7.holds Tryd.pinned (.plain (OpenSpec.ofChange nameBackSpec)) nameBackCard

/-- THE SECOND FORM's CARD OF 'grommetlaw02.NameReads'. -/
def nameReadsUptoCard : Claim7 := { stood := { row := nameReadsUptoRow, standIns := [], harness := (true, "8c502c3f33f29163ca08ec69f7cb6b59d05f978e785f641da53179fefa85ecdd"), looks := true }, kinds := [], alts := [], laidByText := true, laidKinds := [.handle], laidTests := true, laidLooks := .later }
def NameReadsUptoCardSaid : Prop := Claim7.holds Tryd.pinned (.plain (OpenSpec.upto nameReadsSpec)) nameReadsUptoCard

/-- THE SECOND FORM's CARD OF 'grommetlaw02.NameParts'. -/
def namePartsUptoCard : Claim7 := { stood := { row := namePartsUptoRow, standIns := [], harness := (true, "8c502c3f33f29163ca08ec69f7cb6b59d05f978e785f641da53179fefa85ecdd"), looks := true }, kinds := [], alts := [], laidByText := true, laidKinds := [.handle], laidTests := true, laidLooks := .later }
def NamePartsUptoCardSaid : Prop := Claim7.holds Tryd.pinned (.plain (OpenSpec.upto namePartsSpec)) namePartsUptoCard

/-- THE SECOND FORM's CARD OF 'grommetlaw02.NameStays'. -/
def nameStaysUptoCard : Claim7 := { stood := { row := nameStaysUptoRow, standIns := [], harness := (true, "8c502c3f33f29163ca08ec69f7cb6b59d05f978e785f641da53179fefa85ecdd"), looks := true }, kinds := [], alts := [], laidByText := true, laidKinds := [.handle], laidTests := true, laidLooks := .later }
def NameStaysUptoCardSaid : Prop := Claim7.holds Tryd.pinned (.plain (OpenSpec.upto nameStaysSpec)) nameStaysUptoCard

/-- THE SECOND FORM's CARD OF 'grommetlaw02.NamePuts'. -/
def namePutsUptoCard : Claim7 := { stood := { row := namePutsUptoRow, standIns := [], harness := (true, "8c502c3f33f29163ca08ec69f7cb6b59d05f978e785f641da53179fefa85ecdd"), looks := true }, kinds := [], alts := [], laidByText := true, laidKinds := [.handle], laidTests := true, laidLooks := .later }
def NamePutsUptoCardSaid : Prop := Claim7.holds Tryd.pinned (.plain (OpenSpec.upto namePutsSpec)) namePutsUptoCard

/-- THE SECOND FORM's CARD OF 'grommetlaw02.NameBack'. -/
def nameBackUptoCard : Claim7 := { stood := { row := nameBackUptoRow, standIns := [], harness := (true, "8c502c3f33f29163ca08ec69f7cb6b59d05f978e785f641da53179fefa85ecdd"), looks := true }, kinds := [], alts := [], laidByText := true, laidKinds := [.handle], laidTests := true, laidLooks := .later }
def NameBackUptoCardSaid : Prop := Claim7.holds Tryd.pinned (.plain (OpenSpec.upto nameBackSpec)) nameBackUptoCard
end Rows
end Go.Proofs.YtagaihiemomelaaDoor
