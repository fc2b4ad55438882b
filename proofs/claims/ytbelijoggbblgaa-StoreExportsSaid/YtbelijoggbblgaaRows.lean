/-
  NARROWER THAN 'FOR EVERY INPUT', by the rows' own cells (each row's printed sentence says how): StoreExports: loops.
  DERIVED. THE GIVEN ROWS OF THIS SEAT. 3 by the template 'for every input the law returns true; each argument reads behind the call as it read before'; 0 by the template 'total and deterministic' (their statements: YtbelijoggbblgaaTotals.lean).
  GIVEN WITH THE SEED: the statements are not yours to turn. If you find one false, say at which input.
  Laid BY PROGRAM, IN A SANDBOX (cutbox-rows.mjs): the forced cells as the released guide's own fill.sh prints them over the translation 3e882ab4995ec01e… (all of the seat's roots in one cut). By AI agents, Wed Nov 11 2026. No macro, syntax, notation, axiom, sorry.
-/
import Derived.Test.YtbelijoggbblgaaChecked
import GoSem.Claim
import GoSem.ClaimJoined
import GoSem.ClaimMapViews
import Derived.JoinedTies
import Derived.KernelRfl
namespace Go.Proofs.Ytbelijoggbblgaa
/- THE CELL 'sum', in the pinned program and in every row, IS THE sha256 OF THE DUMP (.gsa) THAT YtbelijoggbblgaaProg.lean LOADS. Nothing in Lean hashes anything: it is a label: what it is worth is what the hold of that sum in a sandbox is worth. -/
noncomputable def Try.pinned : Pinned := { name := "ytbelijoggbblgaa", sum := "3e882ab4995ec01ed5eafbeba9ae2d294f1038a84fa5d29f99f7562658e3e1bc", checked := Try.checked }
namespace Rows
def none {H : Type} : Left H := { results := [], args := [] }

/-- 'grommetlaw16.StoreStays': WHATEVER THE INPUT: true; the input reads as it did. -/
def storeStaysSpec : ChangeSpec := { name := "storeStays", fn := fun _ => fun
  | [d1, d2, d3] => { results := [.lit (.bool true)], args := [d1, d2, d3] }
  | _ => none }
def storeStaysRow : OpenClaim := { program := "ytbelijoggbblgaa", sum := "3e882ab4995ec01ed5eafbeba9ae2d294f1038a84fa5d29f99f7562658e3e1bc", func := "grommet/grommetlaw16.StoreStays", spec := "storeStays", apart := false }
def StoreStaysSaid : Prop := storeStaysRow.holds Try.pinned (OpenSpec.ofChange storeStaysSpec)

/-- ITS FALSE NEIGHBOUR: 'it returns false'. Refute it at one input. -/
def storeStaysWrong : ChangeSpec := { name := "storeStays", fn := fun _ => fun
  | [d1, d2, d3] => { results := [.lit (.bool false)], args := [d1, d2, d3] }
  | _ => none }
def StoreStaysWrongFalsely : Prop := storeStaysRow.holds Try.pinned (OpenSpec.ofChange storeStaysWrong)

/-- 'grommetlaw16.StoreExports': WHATEVER THE INPUT: true; the input reads as it did. -/
def storeExportsSpec : ChangeSpec := { name := "storeExports", fn := fun _ => fun
  | [d1, d2, d3, d4] => { results := [.lit (.bool true)], args := [d1, d2, d3, d4] }
  | _ => none }
def storeExportsRow : OpenClaim := { program := "ytbelijoggbblgaa", sum := "3e882ab4995ec01ed5eafbeba9ae2d294f1038a84fa5d29f99f7562658e3e1bc", func := "grommet/grommetlaw16.StoreExports", spec := "storeExports", unfollowed := true, recurses := true, loops := true, apart := false }
def StoreExportsSaid : Prop := storeExportsRow.holds Try.pinned (OpenSpec.ofChange storeExportsSpec)

/-- ITS FALSE NEIGHBOUR: 'it returns false'. Refute it at one input. -/
def storeExportsWrong : ChangeSpec := { name := "storeExports", fn := fun _ => fun
  | [d1, d2, d3, d4] => { results := [.lit (.bool false)], args := [d1, d2, d3, d4] }
  | _ => none }
def StoreExportsWrongFalsely : Prop := storeExportsRow.holds Try.pinned (OpenSpec.ofChange storeExportsWrong)

/-- 'grommetlaw16.StorePlays': WHATEVER THE INPUT: true; the input reads as it did. -/
def storePlaysSpec : ChangeSpec := { name := "storePlays", fn := fun _ => fun
  | [d] => { results := [.lit (.bool true)], args := [d] }
  | _ => none }
def storePlaysRow : OpenClaim := { program := "ytbelijoggbblgaa", sum := "3e882ab4995ec01ed5eafbeba9ae2d294f1038a84fa5d29f99f7562658e3e1bc", func := "grommet/grommetlaw16.StorePlays", spec := "storePlays", apart := false }
def StorePlaysSaid : Prop := storePlaysRow.holds Try.pinned (OpenSpec.ofChange storePlaysSpec)

/-- ITS FALSE NEIGHBOUR: 'it returns false'. Refute it at one input. -/
def storePlaysWrong : ChangeSpec := { name := "storePlays", fn := fun _ => fun
  | [d] => { results := [.lit (.bool false)], args := [d] }
  | _ => none }
def StorePlaysWrongFalsely : Prop := storePlaysRow.holds Try.pinned (OpenSpec.ofChange storePlaysWrong)

/- THE SECOND FORM. 'bulk': how many values and letters a reading holds, each counted each time it is reached (what is shared counts as often as it is met; a slice's spare places count too). A statement '..UptoSaid' is the law's where the arguments, and the package variables that the reading takes, are together of bulk at most 1048576: NARROWER than '..Said'. Prove '..Said' where nothing that the law and all that it calls make is longer than what came in: it says more and counts as full. Else prove '..UptoSaid'. A law counts once. -/
mutual
def uptoBulk {H : Type} : DataW H → Nat
  | .lit (.string bytes) => bytes.length + 1
  | .lit _ => 1
  | .nil => 1
  | .ptr d => uptoBulk d + 1
  | .slice elems spare => uptoBulkAll elems + uptoBulkAll spare + 1
  | .agg parts => uptoBulkAll parts + 1
  | .iface _ d => uptoBulk d + 1
  | .map entries => uptoBulkEntries entries + 1
  | .held _ => 1
def uptoBulkAll {H : Type} : List (DataW H) → Nat
  | [] => 0
  | d :: r => uptoBulk d + uptoBulkAll r
def uptoBulkEntries {H : Type} : List (Lit × DataW H) → Nat
  | [] => 0
  | x :: r => uptoBulkEntry x + uptoBulkEntries r
def uptoBulkEntry {H : Type} : Lit × DataW H → Nat
  | (.string bytes, d) => bytes.length + uptoBulk d + 1
  | (_, d) => uptoBulk d + 1
 end
def uptoSmall : (H : Type) → List (DataW H) → Bool := fun _ ds => decide (uptoBulkAll ds ≤ 1048576)
def OpenSpec.upto (s : _root_.Go.ChangeSpec) : _root_.Go.OpenSpec := { _root_.Go.OpenSpec.ofChange s with cond := some uptoSmall }

/-- 'grommetlaw16.StoreStays', WHERE WHAT IT READS IS OF BULK AT MOST 1048576: true; the input reads as it did. -/
def storeStaysUptoRow : OpenClaim := { program := "ytbelijoggbblgaa", sum := "3e882ab4995ec01ed5eafbeba9ae2d294f1038a84fa5d29f99f7562658e3e1bc", func := "grommet/grommetlaw16.StoreStays", spec := "storeStays", apart := false, narrowed := true }
def StoreStaysUptoSaid : Prop := storeStaysUptoRow.holds Try.pinned (OpenSpec.upto storeStaysSpec)

/-- 'grommetlaw16.StoreExports', WHERE WHAT IT READS IS OF BULK AT MOST 1048576: true; the input reads as it did. -/
def storeExportsUptoRow : OpenClaim := { program := "ytbelijoggbblgaa", sum := "3e882ab4995ec01ed5eafbeba9ae2d294f1038a84fa5d29f99f7562658e3e1bc", func := "grommet/grommetlaw16.StoreExports", spec := "storeExports", unfollowed := true, recurses := true, loops := true, apart := false, narrowed := true }
def StoreExportsUptoSaid : Prop := storeExportsUptoRow.holds Try.pinned (OpenSpec.upto storeExportsSpec)

/-- 'grommetlaw16.StorePlays', WHERE WHAT IT READS IS OF BULK AT MOST 1048576: true; the input reads as it did. -/
def storePlaysUptoRow : OpenClaim := { program := "ytbelijoggbblgaa", sum := "3e882ab4995ec01ed5eafbeba9ae2d294f1038a84fa5d29f99f7562658e3e1bc", func := "grommet/grommetlaw16.StorePlays", spec := "storePlays", apart := false, narrowed := true }
def StorePlaysUptoSaid : Prop := storePlaysUptoRow.holds Try.pinned (OpenSpec.upto storePlaysSpec)

end Rows
end Go.Proofs.Ytbelijoggbblgaa
