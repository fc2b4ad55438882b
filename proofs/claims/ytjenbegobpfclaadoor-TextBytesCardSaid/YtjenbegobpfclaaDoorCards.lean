/-
  DERIVED. GIVEN WITH THE SEED: THE CARDS: each row of YtjenbegobpfclaaDoorRows.lean that lists a variable, with what it lists TIED to the program's text (the seventh form; the later family's looks); each row that meets fmt, with fmt's text TOLD by the authors' own Lean function (tested against real Go, not proved from fmt's source: count such statements apart). THE CARD IS WHAT COUNTS. Prove the row's statement (the work); the ties are given (YtjenbegobpfclaaDoorTie.lean); close each card by the builder's one call (the guide's Derived/Test/ToyasCard.lean, 'card_holds'). Laid BY PROGRAM, IN A SANDBOX (cutbox-door.mjs). By AI agents, Wed Nov 11 2026. No macro, syntax, notation, axiom, sorry.
-/
import Derived.Test.YtjenbegobpfclaaDoorRows
import GoSem.ClaimSeven
namespace Go.Proofs.YtjenbegobpfclaaDoor
namespace Rows

/-- THE TIED CARD OF 'grommetlaw11.TextBytes'. -/
def textBytesCard : Claim7 := { stood := { row := textBytesRow, standIns := [], harness := (true, "01802c2d1650937d959b4ae8da3787d1e39bedf309b453d9e2ebcb02a396a5bc"), looks := true }, kinds := [], alts := [], laidByText := true, laidKinds := [.handle], laidTests := true, laidLooks := .later }
def TextBytesCardSaid : Prop := Claim7.holds Tryd.pinned (.plain (OpenSpec.ofChange textBytesSpec)) textBytesCard

/-- THE SECOND FORM's CARD OF 'grommetlaw11.TextBytes'. -/
def textBytesUptoCard : Claim7 := { stood := { row := textBytesUptoRow, standIns := [], harness := (true, "01802c2d1650937d959b4ae8da3787d1e39bedf309b453d9e2ebcb02a396a5bc"), looks := true }, kinds := [], alts := [], laidByText := true, laidKinds := [.handle], laidTests := true, laidLooks := .later }
def TextBytesUptoCardSaid : Prop := Claim7.holds Tryd.pinned (.plain (OpenSpec.upto textBytesSpec)) textBytesUptoCard
end Rows
end Go.Proofs.YtjenbegobpfclaaDoor
