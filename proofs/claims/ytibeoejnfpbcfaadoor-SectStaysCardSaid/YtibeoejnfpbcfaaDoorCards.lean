/-
  DERIVED. GIVEN WITH THE SEED: THE CARDS: each row of YtibeoejnfpbcfaaDoorRows.lean that lists a variable, with what it lists TIED to the program's text (the seventh form; the later family's looks); each row that meets fmt, with fmt's text TOLD by the authors' own Lean function (tested against real Go, not proved from fmt's source: count such statements apart). THE CARD IS WHAT COUNTS. Prove the row's statement (the work); the ties are given (YtibeoejnfpbcfaaDoorTie.lean); close each card by the builder's one call (the guide's Derived/Test/ToyasCard.lean, 'card_holds'). Laid BY PROGRAM, IN A SANDBOX (cutbox-door.mjs). By AI agents, Wed Nov 11 2026. No macro, syntax, notation, axiom, sorry.
-/
import Derived.Test.YtibeoejnfpbcfaaDoorRows
import GoSem.ClaimSeven
namespace Go.Proofs.YtibeoejnfpbcfaaDoor
namespace Rows

/-- THE TIED CARD OF 'grommetlaw07.SectSplits'. -/
def sectSplitsCard : Claim7 := { stood := { row := sectSplitsRow, standIns := [], harness := (true, "bb5f588458574a8f8bc71144f391b09c49e644cd3fcc299a69209b6deebdd67f"), looks := true }, kinds := [], alts := [], laidByText := true, laidKinds := [.handle], laidTests := true, laidLooks := .later }
def SectSplitsCardSaid : Prop := Claim7.holds Tryd.pinned (.plain (OpenSpec.ofChange sectSplitsSpec)) sectSplitsCard

/-- THE TIED CARD OF 'grommetlaw07.SectJoins'. -/
def sectJoinsCard : Claim7 := { stood := { row := sectJoinsRow, standIns := [], harness := (true, "bb5f588458574a8f8bc71144f391b09c49e644cd3fcc299a69209b6deebdd67f"), looks := true }, kinds := [], alts := [], laidByText := true, laidKinds := [.handle], laidTests := true, laidLooks := .later }
def SectJoinsCardSaid : Prop := Claim7.holds Tryd.pinned (.plain (OpenSpec.ofChange sectJoinsSpec)) sectJoinsCard

/-- THE TIED CARD OF 'grommetlaw07.SectBack'. -/
def sectBackCard : Claim7 := { stood := { row := sectBackRow, standIns := [], harness := (true, "bb5f588458574a8f8bc71144f391b09c49e644cd3fcc299a69209b6deebdd67f"), looks := true }, kinds := [], alts := [], laidByText := true, laidKinds := [.handle], laidTests := true, laidLooks := .later }
def SectBackCardSaid : Prop := Claim7.holds Tryd.pinned (.plain (OpenSpec.ofChange sectBackSpec)) sectBackCard

/-- THE TIED CARD OF 'grommetlaw07.SectStays'. -/
def sectStaysCard : Claim7 := { stood := { row := sectStaysRow, standIns := [], harness := (true, "bb5f588458574a8f8bc71144f391b09c49e644cd3fcc299a69209b6deebdd67f"), looks := true }, kinds := [], alts := [], laidByText := true, laidKinds := [.handle], laidTests := true, laidLooks := .later }
def SectStaysCardSaid : Prop := Claim7.holds Tryd.pinned (.plain (OpenSpec.ofChange sectStaysSpec)) sectStaysCard

/-- THE TIED CARD OF 'grommetlaw07.SectMore'. -/
def sectMoreCard : Claim7 := { stood := { row := sectMoreRow, standIns := [], harness := (true, "bb5f588458574a8f8bc71144f391b09c49e644cd3fcc299a69209b6deebdd67f"), looks := true }, kinds := [], alts := [], laidByText := true, laidKinds := [.handle], laidTests := true, laidLooks := .later }
def SectMoreCardSaid : Prop := Claim7.holds Tryd.pinned (.plain (OpenSpec.ofChange sectMoreSpec)) sectMoreCard

/-- THE SECOND FORM's CARD OF 'grommetlaw07.SectSplits'. -/
def sectSplitsUptoCard : Claim7 := { stood := { row := sectSplitsUptoRow, standIns := [], harness := (true, "bb5f588458574a8f8bc71144f391b09c49e644cd3fcc299a69209b6deebdd67f"), looks := true }, kinds := [], alts := [], laidByText := true, laidKinds := [.handle], laidTests := true, laidLooks := .later }
def SectSplitsUptoCardSaid : Prop := Claim7.holds Tryd.pinned (.plain (OpenSpec.upto sectSplitsSpec)) sectSplitsUptoCard

/-- THE SECOND FORM's CARD OF 'grommetlaw07.SectJoins'. -/
def sectJoinsUptoCard : Claim7 := { stood := { row := sectJoinsUptoRow, standIns := [], harness := (true, "bb5f588458574a8f8bc71144f391b09c49e644cd3fcc299a69209b6deebdd67f"), looks := true }, kinds := [], alts := [], laidByText := true, laidKinds := [.handle], laidTests := true, laidLooks := .later }
def SectJoinsUptoCardSaid : Prop := Claim7.holds Tryd.pinned (.plain (OpenSpec.upto sectJoinsSpec)) sectJoinsUptoCard

/-- THE SECOND FORM's CARD OF 'grommetlaw07.SectBack'. -/
def sectBackUptoCard : Claim7 := { stood := { row := sectBackUptoRow, standIns := [], harness := (true, "bb5f588458574a8f8bc71144f391b09c49e644cd3fcc299a69209b6deebdd67f"), looks := true }, kinds := [], alts := [], laidByText := true, laidKinds := [.handle], laidTests := true, laidLooks := .later }
def SectBackUptoCardSaid : Prop := Claim7.holds Tryd.pinned (.plain (OpenSpec.upto sectBackSpec)) sectBackUptoCard

/-- THE SECOND FORM's CARD OF 'grommetlaw07.SectStays'. -/
def sectStaysUptoCard : Claim7 := { stood := { row := sectStaysUptoRow, standIns := [], harness := (true, "bb5f588458574a8f8bc71144f391b09c49e644cd3fcc299a69209b6deebdd67f"), looks := true }, kinds := [], alts := [], laidByText := true, laidKinds := [.handle], laidTests := true, laidLooks := .later }
def SectStaysUptoCardSaid : Prop := Claim7.holds Tryd.pinned (.plain (OpenSpec.upto sectStaysSpec)) sectStaysUptoCard

/-- THE SECOND FORM's CARD OF 'grommetlaw07.SectMore'. -/
def sectMoreUptoCard : Claim7 := { stood := { row := sectMoreUptoRow, standIns := [], harness := (true, "bb5f588458574a8f8bc71144f391b09c49e644cd3fcc299a69209b6deebdd67f"), looks := true }, kinds := [], alts := [], laidByText := true, laidKinds := [.handle], laidTests := true, laidLooks := .later }
def SectMoreUptoCardSaid : Prop := Claim7.holds Tryd.pinned (.plain (OpenSpec.upto sectMoreSpec)) sectMoreUptoCard
end Rows
end Go.Proofs.YtibeoejnfpbcfaaDoor
