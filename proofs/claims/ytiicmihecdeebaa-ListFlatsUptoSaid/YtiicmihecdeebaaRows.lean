/-
  NARROWER THAN 'FOR EVERY INPUT', by the rows' own cells (each row's printed sentence says how): ListFlats: loops.
  DERIVED. THE GIVEN ROWS OF THIS SEAT. 4 by the template 'for every input the law returns true; each argument reads behind the call as it read before'; 0 by the template 'total and deterministic' (their statements: YtiicmihecdeebaaTotals.lean).
  GIVEN WITH THE SEED: the statements are not yours to turn. If you find one false, say at which input.
  Laid BY PROGRAM, IN A SANDBOX (cutbox-rows.mjs): the forced cells as the released guide's own fill.sh prints them over the translation 33b80c645135e392… (all of the seat's roots in one cut). By AI agents, Wed Nov 11 2026. No macro, syntax, notation, axiom, sorry.
-/
import Derived.Test.YtiicmihecdeebaaChecked
import GoSem.Claim
import GoSem.ClaimJoined
import GoSem.ClaimMapViews
import Derived.JoinedTies
import Derived.KernelRfl
namespace Go.Proofs.Ytiicmihecdeebaa
/- THE CELL 'sum', in the pinned program and in every row, IS THE sha256 OF THE DUMP (.gsa) THAT YtiicmihecdeebaaProg.lean LOADS. Nothing in Lean hashes anything: it is a label: what it is worth is what the hold of that sum in a sandbox is worth. -/
noncomputable def Try.pinned : Pinned := { name := "ytiicmihecdeebaa", sum := "33b80c645135e3926978aaab0c69afd9f0b521e5a7faabfbf85e2472cc7e3a2e", checked := Try.checked }
namespace Rows
def none {H : Type} : Left H := { results := [], args := [] }

/-- 'grommetlaw10.ListParts': WHATEVER THE INPUT: true; the input reads as it did. -/
def listPartsSpec : ChangeSpec := { name := "listParts", fn := fun _ => fun
  | [d1, d2] => { results := [.lit (.bool true)], args := [d1, d2] }
  | _ => none }
def listPartsRow : OpenClaim := { program := "ytiicmihecdeebaa", sum := "33b80c645135e3926978aaab0c69afd9f0b521e5a7faabfbf85e2472cc7e3a2e", func := "grommet/grommetlaw10.ListParts", spec := "listParts", unfollowed := true, recurses := true, apart := false }
def ListPartsSaid : Prop := listPartsRow.holds Try.pinned (OpenSpec.ofChange listPartsSpec)

/-- ITS FALSE NEIGHBOUR: 'it returns false'. Refute it at one input. -/
def listPartsWrong : ChangeSpec := { name := "listParts", fn := fun _ => fun
  | [d1, d2] => { results := [.lit (.bool false)], args := [d1, d2] }
  | _ => none }
def ListPartsWrongFalsely : Prop := listPartsRow.holds Try.pinned (OpenSpec.ofChange listPartsWrong)

/-- 'grommetlaw10.ListFlats': WHATEVER THE INPUT: true; the input reads as it did. -/
def listFlatsSpec : ChangeSpec := { name := "listFlats", fn := fun _ => fun
  | [d] => { results := [.lit (.bool true)], args := [d] }
  | _ => none }
def listFlatsRow : OpenClaim := { program := "ytiicmihecdeebaa", sum := "33b80c645135e3926978aaab0c69afd9f0b521e5a7faabfbf85e2472cc7e3a2e", func := "grommet/grommetlaw10.ListFlats", spec := "listFlats", unfollowed := true, recurses := true, loops := true, apart := false }
def ListFlatsSaid : Prop := listFlatsRow.holds Try.pinned (OpenSpec.ofChange listFlatsSpec)

/-- ITS FALSE NEIGHBOUR: 'it returns false'. Refute it at one input. -/
def listFlatsWrong : ChangeSpec := { name := "listFlats", fn := fun _ => fun
  | [d] => { results := [.lit (.bool false)], args := [d] }
  | _ => none }
def ListFlatsWrongFalsely : Prop := listFlatsRow.holds Try.pinned (OpenSpec.ofChange listFlatsWrong)

/-- 'grommetlaw10.ListBack': WHATEVER THE INPUT: true; the input reads as it did. -/
def listBackSpec : ChangeSpec := { name := "listBack", fn := fun _ => fun
  | [d] => { results := [.lit (.bool true)], args := [d] }
  | _ => none }
def listBackRow : OpenClaim := { program := "ytiicmihecdeebaa", sum := "33b80c645135e3926978aaab0c69afd9f0b521e5a7faabfbf85e2472cc7e3a2e", func := "grommet/grommetlaw10.ListBack", spec := "listBack", unfollowed := true, recurses := true, apart := false }
def ListBackSaid : Prop := listBackRow.holds Try.pinned (OpenSpec.ofChange listBackSpec)

/-- ITS FALSE NEIGHBOUR: 'it returns false'. Refute it at one input. -/
def listBackWrong : ChangeSpec := { name := "listBack", fn := fun _ => fun
  | [d] => { results := [.lit (.bool false)], args := [d] }
  | _ => none }
def ListBackWrongFalsely : Prop := listBackRow.holds Try.pinned (OpenSpec.ofChange listBackWrong)

/-- 'grommetlaw10.ListStays': WHATEVER THE INPUT: true; the input reads as it did. -/
def listStaysSpec : ChangeSpec := { name := "listStays", fn := fun _ => fun
  | [d] => { results := [.lit (.bool true)], args := [d] }
  | _ => none }
def listStaysRow : OpenClaim := { program := "ytiicmihecdeebaa", sum := "33b80c645135e3926978aaab0c69afd9f0b521e5a7faabfbf85e2472cc7e3a2e", func := "grommet/grommetlaw10.ListStays", spec := "listStays", unfollowed := true, recurses := true, apart := false }
def ListStaysSaid : Prop := listStaysRow.holds Try.pinned (OpenSpec.ofChange listStaysSpec)

/-- ITS FALSE NEIGHBOUR: 'it returns false'. Refute it at one input. -/
def listStaysWrong : ChangeSpec := { name := "listStays", fn := fun _ => fun
  | [d] => { results := [.lit (.bool false)], args := [d] }
  | _ => none }
def ListStaysWrongFalsely : Prop := listStaysRow.holds Try.pinned (OpenSpec.ofChange listStaysWrong)

/- THE SECOND FORM. 'bulk': how many values and letters a reading holds, each counted each time it is reached (what is shared counts as often as it is met; a slice's spare places count too). A statement '..UptoSaid' is the law's where the arguments, and the package variables that the reading takes, are together of bulk at most 1048576: NARROWER than '..Said'. Prove '..Said' where nothing that the law and all that it calls make is longer than what came in: it says more and counts as full. Else prove '..UptoSaid'. A law counts once. -/
mutual
def uptoBulk {H : Type} : DataW H → Nat
  | .lit (.string bytes) => bytes.length + 1
  | .lit _ => 1
  | .nil => 1
  | .ptr d => uptoBulk d + 1
  | .slice elems spare => uptoBulkAll elems + uptoBulkAll spare + 1
  | .agg parts => uptoBulkAll parts + 1
  | .iface _ d => uptoBulk d + 1
  | .map entries => uptoBulkEntries entries + 1
  | .held _ => 1
def uptoBulkAll {H : Type} : List (DataW H) → Nat
  | [] => 0
  | d :: r => uptoBulk d + uptoBulkAll r
def uptoBulkEntries {H : Type} : List (Lit × DataW H) → Nat
  | [] => 0
  | x :: r => uptoBulkEntry x + uptoBulkEntries r
def uptoBulkEntry {H : Type} : Lit × DataW H → Nat
  | (.string bytes, d) => bytes.length + uptoBulk d + 1
  | (_, d) => uptoBulk d + 1
 end
def uptoSmall : (H : Type) → List (DataW H) → Bool := fun _ ds => decide (uptoBulkAll ds ≤ 1048576)
def OpenSpec.upto (s : _root_.Go.ChangeSpec) : _root_.Go.OpenSpec := { _root_.Go.OpenSpec.ofChange s with cond := some uptoSmall }

/-- 'grommetlaw10.ListParts', WHERE WHAT IT READS IS OF BULK AT MOST 1048576: true; the input reads as it did. -/
def listPartsUptoRow : OpenClaim := { program := "ytiicmihecdeebaa", sum := "33b80c645135e3926978aaab0c69afd9f0b521e5a7faabfbf85e2472cc7e3a2e", func := "grommet/grommetlaw10.ListParts", spec := "listParts", unfollowed := true, recurses := true, apart := false, narrowed := true }
def ListPartsUptoSaid : Prop := listPartsUptoRow.holds Try.pinned (OpenSpec.upto listPartsSpec)

/-- 'grommetlaw10.ListFlats', WHERE WHAT IT READS IS OF BULK AT MOST 1048576: true; the input reads as it did. -/
def listFlatsUptoRow : OpenClaim := { program := "ytiicmihecdeebaa", sum := "33b80c645135e3926978aaab0c69afd9f0b521e5a7faabfbf85e2472cc7e3a2e", func := "grommet/grommetlaw10.ListFlats", spec := "listFlats", unfollowed := true, recurses := true, loops := true, apart := false, narrowed := true }
def ListFlatsUptoSaid : Prop := listFlatsUptoRow.holds Try.pinned (OpenSpec.upto listFlatsSpec)

/-- 'grommetlaw10.ListBack', WHERE WHAT IT READS IS OF BULK AT MOST 1048576: true; the input reads as it did. -/
def listBackUptoRow : OpenClaim := { program := "ytiicmihecdeebaa", sum := "33b80c645135e3926978aaab0c69afd9f0b521e5a7faabfbf85e2472cc7e3a2e", func := "grommet/grommetlaw10.ListBack", spec := "listBack", unfollowed := true, recurses := true, apart := false, narrowed := true }
def ListBackUptoSaid : Prop := listBackUptoRow.holds Try.pinned (OpenSpec.upto listBackSpec)

/-- 'grommetlaw10.ListStays', WHERE WHAT IT READS IS OF BULK AT MOST 1048576: true; the input reads as it did. -/
def listStaysUptoRow : OpenClaim := { program := "ytiicmihecdeebaa", sum := "33b80c645135e3926978aaab0c69afd9f0b521e5a7faabfbf85e2472cc7e3a2e", func := "grommet/grommetlaw10.ListStays", spec := "listStays", unfollowed := true, recurses := true, apart := false, narrowed := true }
def ListStaysUptoSaid : Prop := listStaysUptoRow.holds Try.pinned (OpenSpec.upto listStaysSpec)

end Rows
end Go.Proofs.Ytiicmihecdeebaa
