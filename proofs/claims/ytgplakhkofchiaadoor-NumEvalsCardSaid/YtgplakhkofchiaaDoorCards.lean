/-
  DERIVED. GIVEN WITH THE SEED: THE CARDS: each row of YtgplakhkofchiaaDoorRows.lean that lists a variable, with what it lists TIED to the program's text (the seventh form; the later family's looks); each row that meets fmt, with fmt's text TOLD by the authors' own Lean function (tested against real Go, not proved from fmt's source: count such statements apart). THE CARD IS WHAT COUNTS. Prove the row's statement (the work); the ties are given (YtgplakhkofchiaaDoorTie.lean); close each card by the builder's one call (the guide's Derived/Test/ToyasCard.lean, 'card_holds'). Laid BY PROGRAM, IN A SANDBOX (cutbox-door.mjs). By AI agents, Wed Nov 11 2026. No macro, syntax, notation, axiom, sorry.
-/
import Derived.Test.YtgplakhkofchiaaDoorRows
import GoSem.ClaimSeven
namespace Go.Proofs.YtgplakhkofchiaaDoor
namespace Rows

/-- THE TIED CARD OF 'grommetlaw03.NumArgs'. -/
def numArgsCard : Claim7 := { stood := { row := numArgsRow, standIns := [], harness := (true, "f08aeb2e6688e2eee72496b69ddeb9628369f992c730e643f0881cdde0118482"), looks := true }, kinds := [], alts := [], laidByText := true, laidKinds := [.data], laidTests := true, laidLooks := .later }
def NumArgsCardSaid : Prop := Claim7.holds Tryd.pinned (.plain (OpenSpec.ofChange numArgsSpec)) numArgsCard

/-- THE TIED CARD OF 'grommetlaw03.NumEvals'. -/
def numEvalsCard : Claim7 := { stood := { row := numEvalsRow, standIns := [], harness := (true, "f08aeb2e6688e2eee72496b69ddeb9628369f992c730e643f0881cdde0118482"), looks := true }, kinds := [], alts := [], laidByText := true, laidKinds := [.data], laidTests := true, laidLooks := .later }
def NumEvalsCardSaid : Prop := Claim7.holds Tryd.pinned (.plain (OpenSpec.ofChange numEvalsSpec)) numEvalsCard

/-- THE TIED CARD OF 'grommetlaw03.NumAll'. -/
def numAllCard : Claim7 := { stood := { row := numAllRow, standIns := [], harness := (true, "f08aeb2e6688e2eee72496b69ddeb9628369f992c730e643f0881cdde0118482"), looks := true }, kinds := [], alts := [], laidByText := true, laidKinds := [.data], laidTests := true, laidLooks := .later }
def NumAllCardSaid : Prop := Claim7.holds Tryd.pinned (.plain (OpenSpec.ofChange numAllSpec)) numAllCard

/-- THE TIED CARD OF 'grommetlaw03.NumBack'. -/
def numBackCard : Claim7 := { stood := { row := numBackRow, standIns := [], harness := (true, "f08aeb2e6688e2eee72496b69ddeb9628369f992c730e643f0881cdde0118482"), looks := true }, kinds := [], alts := [], laidByText := true, laidKinds := [.data], laidTests := true, laidLooks := .later }
def NumBackCardSaid : Prop := Claim7.holds Tryd.pinned (.plain (OpenSpec.ofChange numBackSpec)) numBackCard

/-- THE TIED CARD OF 'grommetlaw03.NumOrder'. -/
def numOrderCard : Claim7 := { stood := { row := numOrderRow, standIns := [], harness := (true, "f08aeb2e6688e2eee72496b69ddeb9628369f992c730e643f0881cdde0118482"), looks := true }, kinds := [], alts := [], laidByText := true, laidKinds := [.data], laidTests := true, laidLooks := .later }
def NumOrderCardSaid : Prop := Claim7.holds Tryd.pinned (.plain (OpenSpec.ofChange numOrderSpec)) numOrderCard

/-- THE TIED CARD OF 'grommetlaw03.NumStays'. -/
def numStaysCard : Claim7 := { stood := { row := numStaysRow, standIns := [], harness := (true, "f08aeb2e6688e2eee72496b69ddeb9628369f992c730e643f0881cdde0118482"), looks := true }, kinds := [], alts := [], laidByText := true, laidKinds := [.data], laidTests := true, laidLooks := .later }
def NumStaysCardSaid : Prop := Claim7.holds Tryd.pinned (.plain (OpenSpec.ofChange numStaysSpec)) numStaysCard

/-- THE TIED CARD OF 'grommetlaw03.NumShifts'. -/
def numShiftsCard : Claim7 := { stood := { row := numShiftsRow, standIns := [], harness := (true, "f08aeb2e6688e2eee72496b69ddeb9628369f992c730e643f0881cdde0118482"), looks := true }, kinds := [], alts := [], laidByText := true, laidKinds := [.data], laidTests := true, laidLooks := .later }
def NumShiftsCardSaid : Prop := Claim7.holds Tryd.pinned (.plain (OpenSpec.ofChange numShiftsSpec)) numShiftsCard

/-- THE SECOND FORM's CARD OF 'grommetlaw03.NumArgs'. -/
def numArgsUptoCard : Claim7 := { stood := { row := numArgsUptoRow, standIns := [], harness := (true, "f08aeb2e6688e2eee72496b69ddeb9628369f992c730e643f0881cdde0118482"), looks := true }, kinds := [], alts := [], laidByText := true, laidKinds := [.data], laidTests := true, laidLooks := .later }
def NumArgsUptoCardSaid : Prop := Claim7.holds Tryd.pinned (.plain (OpenSpec.upto numArgsSpec)) numArgsUptoCard

/-- THE SECOND FORM's CARD OF 'grommetlaw03.NumEvals'. -/
def numEvalsUptoCard : Claim7 := { stood := { row := numEvalsUptoRow, standIns := [], harness := (true, "f08aeb2e6688e2eee72496b69ddeb9628369f992c730e643f0881cdde0118482"), looks := true }, kinds := [], alts := [], laidByText := true, laidKinds := [.data], laidTests := true, laidLooks := .later }
def NumEvalsUptoCardSaid : Prop := Claim7.holds Tryd.pinned (.plain (OpenSpec.upto numEvalsSpec)) numEvalsUptoCard

/-- THE SECOND FORM's CARD OF 'grommetlaw03.NumAll'. -/
def numAllUptoCard : Claim7 := { stood := { row := numAllUptoRow, standIns := [], harness := (true, "f08aeb2e6688e2eee72496b69ddeb9628369f992c730e643f0881cdde0118482"), looks := true }, kinds := [], alts := [], laidByText := true, laidKinds := [.data], laidTests := true, laidLooks := .later }
def NumAllUptoCardSaid : Prop := Claim7.holds Tryd.pinned (.plain (OpenSpec.upto numAllSpec)) numAllUptoCard

/-- THE SECOND FORM's CARD OF 'grommetlaw03.NumBack'. -/
def numBackUptoCard : Claim7 := { stood := { row := numBackUptoRow, standIns := [], harness := (true, "f08aeb2e6688e2eee72496b69ddeb9628369f992c730e643f0881cdde0118482"), looks := true }, kinds := [], alts := [], laidByText := true, laidKinds := [.data], laidTests := true, laidLooks := .later }
def NumBackUptoCardSaid : Prop := Claim7.holds Tryd.pinned (.plain (OpenSpec.upto numBackSpec)) numBackUptoCard

/-- THE SECOND FORM's CARD OF 'grommetlaw03.NumOrder'. -/
def numOrderUptoCard : Claim7 := { stood := { row := numOrderUptoRow, standIns := [], harness := (true, "f08aeb2e6688e2eee72496b69ddeb9628369f992c730e643f0881cdde0118482"), looks := true }, kinds := [], alts := [], laidByText := true, laidKinds := [.data], laidTests := true, laidLooks := .later }
def NumOrderUptoCardSaid : Prop := Claim7.holds Tryd.pinned (.plain (OpenSpec.upto numOrderSpec)) numOrderUptoCard

/-- THE SECOND FORM's CARD OF 'grommetlaw03.NumStays'. -/
def numStaysUptoCard : Claim7 := { stood := { row := numStaysUptoRow, standIns := [], harness := (true, "f08aeb2e6688e2eee72496b69ddeb9628369f992c730e643f0881cdde0118482"), looks := true }, kinds := [], alts := [], laidByText := true, laidKinds := [.data], laidTests := true, laidLooks := .later }
def NumStaysUptoCardSaid : Prop := Claim7.holds Tryd.pinned (.plain (OpenSpec.upto numStaysSpec)) numStaysUptoCard

/-- THE SECOND FORM's CARD OF 'grommetlaw03.NumShifts'. -/
def numShiftsUptoCard : Claim7 := { stood := { row := numShiftsUptoRow, standIns := [], harness := (true, "f08aeb2e6688e2eee72496b69ddeb9628369f992c730e643f0881cdde0118482"), looks := true }, kinds := [], alts := [], laidByText := true, laidKinds := [.data], laidTests := true, laidLooks := .later }
def NumShiftsUptoCardSaid : Prop := Claim7.holds Tryd.pinned (.plain (OpenSpec.upto numShiftsSpec)) numShiftsUptoCard
end Rows
end Go.Proofs.YtgplakhkofchiaaDoor
