/-
  DERIVED. GIVEN WITH THE SEED: THE CARDS: each row of YtaidpcmndmjceaaDoorRows.lean that lists a variable, with what it lists TIED to the program's text (the seventh form; the later family's looks); each row that meets fmt, with fmt's text TOLD by the authors' own Lean function (tested against real Go, not proved from fmt's source: count such statements apart). THE CARD IS WHAT COUNTS. Prove the row's statement (the work); the ties are given (YtaidpcmndmjceaaDoorTie.lean); close each card by the builder's one call (the guide's Derived/Test/ToyasCard.lean, 'card_holds'). Laid BY PROGRAM, IN A SANDBOX (cutbox-door.mjs). By AI agents, Wed Nov 11 2026. No macro, syntax, notation, axiom, sorry.
-/
import Derived.Test.YtaidpcmndmjceaaDoorRows
import GoSem.ClaimSeven
namespace Go.Proofs.YtaidpcmndmjceaaDoor
namespace Rows

/-- THE TIED CARD OF 'grommetlaw09.LexScans'. -/
def lexScansCard : Claim7 := { stood := { row := lexScansRow, standIns := [], harness := (true, "b74a30270593fd8b5fe1633a713b63fbbdc66a9b8e1e8b4d0c8e89e0095b1f23"), looks := true }, kinds := [], alts := [], laidByText := true, laidKinds := [.handle], laidTests := true, laidLooks := .later }
def LexScansCardSaid : Prop := Claim7.holds Tryd.pinned (.plain (OpenSpec.ofChange lexScansSpec)) lexScansCard

/-- THE TIED CARD OF 'grommetlaw09.LexBack'. -/
def lexBackCard : Claim7 := { stood := { row := lexBackRow, standIns := [], harness := (true, "b74a30270593fd8b5fe1633a713b63fbbdc66a9b8e1e8b4d0c8e89e0095b1f23"), looks := true }, kinds := [], alts := [], laidByText := true, laidKinds := [.handle], laidTests := true, laidLooks := .later }
def LexBackCardSaid : Prop := Claim7.holds Tryd.pinned (.plain (OpenSpec.ofChange lexBackSpec)) lexBackCard

/-- THE TIED CARD OF 'grommetlaw09.LexGaps'. -/
def lexGapsCard : Claim7 := { stood := { row := lexGapsRow, standIns := [], harness := (true, "b74a30270593fd8b5fe1633a713b63fbbdc66a9b8e1e8b4d0c8e89e0095b1f23"), looks := true }, kinds := [], alts := [], laidByText := true, laidKinds := [.handle], laidTests := true, laidLooks := .later }
def LexGapsCardSaid : Prop := Claim7.holds Tryd.pinned (.plain (OpenSpec.ofChange lexGapsSpec)) lexGapsCard

/-- THE SECOND FORM's CARD OF 'grommetlaw09.LexScans'. -/
def lexScansUptoCard : Claim7 := { stood := { row := lexScansUptoRow, standIns := [], harness := (true, "b74a30270593fd8b5fe1633a713b63fbbdc66a9b8e1e8b4d0c8e89e0095b1f23"), looks := true }, kinds := [], alts := [], laidByText := true, laidKinds := [.handle], laidTests := true, laidLooks := .later }
def LexScansUptoCardSaid : Prop := Claim7.holds Tryd.pinned (.plain (OpenSpec.upto lexScansSpec)) lexScansUptoCard

/-- THE SECOND FORM's CARD OF 'grommetlaw09.LexBack'. -/
def lexBackUptoCard : Claim7 := { stood := { row := lexBackUptoRow, standIns := [], harness := (true, "b74a30270593fd8b5fe1633a713b63fbbdc66a9b8e1e8b4d0c8e89e0095b1f23"), looks := true }, kinds := [], alts := [], laidByText := true, laidKinds := [.handle], laidTests := true, laidLooks := .later }
def LexBackUptoCardSaid : Prop := Claim7.holds Tryd.pinned (.plain (OpenSpec.upto lexBackSpec)) lexBackUptoCard

/-- THE SECOND FORM's CARD OF 'grommetlaw09.LexGaps'. -/
def lexGapsUptoCard : Claim7 := { stood := { row := lexGapsUptoRow, standIns := [], harness := (true, "b74a30270593fd8b5fe1633a713b63fbbdc66a9b8e1e8b4d0c8e89e0095b1f23"), looks := true }, kinds := [], alts := [], laidByText := true, laidKinds := [.handle], laidTests := true, laidLooks := .later }
def LexGapsUptoCardSaid : Prop := Claim7.holds Tryd.pinned (.plain (OpenSpec.upto lexGapsSpec)) lexGapsUptoCard
end Rows
end Go.Proofs.YtaidpcmndmjceaaDoor
