/-
  NARROWER THAN 'FOR EVERY INPUT', by the rows' own cells (each row's printed sentence says how): NameReads: laid · NameParts: laid · NameStays: laid · NamePuts: laid · NameBack: laid.
  DERIVED. THE GIVEN ROWS OF THIS SEAT. 5 by the template 'for every input the law returns true; each argument reads behind the call as it read before'; 0 by the template 'total and deterministic' (their statements: YtagaihiemomelaaDoorTotals.lean).
  GIVEN WITH THE SEED: the statements are not yours to turn. If you find one false, say at which input.
  Laid BY PROGRAM, IN A SANDBOX (cutbox-rows.mjs): the forced cells as the released guide's own fill.sh prints them over the translation 069af971f0a62614… (all of the seat's roots in one cut). By AI agents, Wed Nov 11 2026. No macro, syntax, notation, axiom, sorry.
-/
import Derived.Test.YtagaihiemomelaaDoorChecked
import GoSem.Claim
import GoSem.ClaimJoined
import GoSem.ClaimMapViews
import Derived.JoinedTies
import Derived.KernelRfl
namespace Go.Proofs.YtagaihiemomelaaDoor
/- THE CELL 'sum', in the pinned program and in every row, IS THE sha256 OF THE DUMP (.gsa) THAT YtagaihiemomelaaDoorProg.lean LOADS. Nothing in Lean hashes anything: it is a label: what it is worth is what the hold of that sum in a sandbox is worth. -/
noncomputable def Tryd.pinned : Pinned := { name := "ytagaihiemomelaadoor", sum := "069af971f0a626146556fb2a487b2170c6ffa683ca7db7df349a1c8b0e78700c", checked := Tryd.checked }
namespace Rows
def none {H : Type} : Left H := { results := [], args := [] }

/- WHAT THE LISTED PACKAGE-LEVEL VARIABLES READ AS WHEN THE CALL BEGINS. Each datum BY PROGRAM (the guide's laid-datum.mjs) off the statement by which the dump's own 'gosem.cut.vars' lays the variable. In a bare row this is a premise. The card (YtagaihiemomelaaDoorCards.lean) ties it to the program's text. -/
def laid_errors_errorType {H : Type} : DataW H := .iface "internal/reflectlite.rtype" (.agg [.ptr (.lit (.string [101, 114, 114, 111, 114]))])

/-- 'grommetlaw02.NameReads': WHATEVER THE INPUT: true; the input reads as it did. -/
def nameReadsSpec : ChangeSpec := { name := "nameReads", fn := fun _ => fun
  | [d] => { results := [.lit (.bool true)], args := [d] }
  | _ => none }
def nameReadsRow : OpenClaim := { program := "ytagaihiemomelaadoor", sum := "069af971f0a626146556fb2a487b2170c6ffa683ca7db7df349a1c8b0e78700c", func := "grommet/grommetlaw02.NameReads", spec := "nameReads", inPlace := ["internal/reflectlite.ValueOf", "(internal/reflectlite.Value).Type", "(internal/reflectlite.Value).IsNil", "internal/reflectlite.TypeOf", "(internal/reflectlite.Value).Elem", "(internal/reflectlite.Value).Set"], unfollowed := true, recurses := true, named := ["errors.errorType"], apart := false, laid := [("errors.errorType", laid_errors_errorType)] }
def NameReadsSaid : Prop := nameReadsRow.holds Tryd.pinned (OpenSpec.ofChange nameReadsSpec)

/-- ITS FALSE NEIGHBOUR: 'it returns false'. Refute it at one input. -/
def nameReadsWrong : ChangeSpec := { name := "nameReads", fn := fun _ => fun
  | [d] => { results := [.lit (.bool false)], args := [d] }
  | _ => none }
def NameReadsWrongFalsely : Prop := nameReadsRow.holds Tryd.pinned (OpenSpec.ofChange nameReadsWrong)

/-- 'grommetlaw02.NameParts': WHATEVER THE INPUT: true; the input reads as it did. -/
def namePartsSpec : ChangeSpec := { name := "nameParts", fn := fun _ => fun
  | [d1, d2] => { results := [.lit (.bool true)], args := [d1, d2] }
  | _ => none }
def namePartsRow : OpenClaim := { program := "ytagaihiemomelaadoor", sum := "069af971f0a626146556fb2a487b2170c6ffa683ca7db7df349a1c8b0e78700c", func := "grommet/grommetlaw02.NameParts", spec := "nameParts", inPlace := ["internal/reflectlite.ValueOf", "(internal/reflectlite.Value).Type", "(internal/reflectlite.Value).IsNil", "internal/reflectlite.TypeOf", "(internal/reflectlite.Value).Elem", "(internal/reflectlite.Value).Set"], unfollowed := true, recurses := true, named := ["errors.errorType"], apart := false, laid := [("errors.errorType", laid_errors_errorType)] }
def NamePartsSaid : Prop := namePartsRow.holds Tryd.pinned (OpenSpec.ofChange namePartsSpec)

/-- ITS FALSE NEIGHBOUR: 'it returns false'. Refute it at one input. -/
def namePartsWrong : ChangeSpec := { name := "nameParts", fn := fun _ => fun
  | [d1, d2] => { results := [.lit (.bool false)], args := [d1, d2] }
  | _ => none }
def NamePartsWrongFalsely : Prop := namePartsRow.holds Tryd.pinned (OpenSpec.ofChange namePartsWrong)

/-- 'grommetlaw02.NameStays': WHATEVER THE INPUT: true; the input reads as it did. -/
def nameStaysSpec : ChangeSpec := { name := "nameStays", fn := fun _ => fun
  | [d] => { results := [.lit (.bool true)], args := [d] }
  | _ => none }
def nameStaysRow : OpenClaim := { program := "ytagaihiemomelaadoor", sum := "069af971f0a626146556fb2a487b2170c6ffa683ca7db7df349a1c8b0e78700c", func := "grommet/grommetlaw02.NameStays", spec := "nameStays", inPlace := ["internal/reflectlite.ValueOf", "(internal/reflectlite.Value).Type", "(internal/reflectlite.Value).IsNil", "internal/reflectlite.TypeOf", "(internal/reflectlite.Value).Elem", "(internal/reflectlite.Value).Set"], unfollowed := true, recurses := true, named := ["errors.errorType"], apart := false, laid := [("errors.errorType", laid_errors_errorType)] }
def NameStaysSaid : Prop := nameStaysRow.holds Tryd.pinned (OpenSpec.ofChange nameStaysSpec)

/-- ITS FALSE NEIGHBOUR: 'it returns false'. Refute it at one input. -/
def nameStaysWrong : ChangeSpec := { name := "nameStays", fn := fun _ => fun
  | [d] => { results := [.lit (.bool false)], args := [d] }
  | _ => none }
def NameStaysWrongFalsely : Prop := nameStaysRow.holds Tryd.pinned (OpenSpec.ofChange nameStaysWrong)

/-- 'grommetlaw02.NamePuts': WHATEVER THE INPUT: true; the input reads as it did. -/
def namePutsSpec : ChangeSpec := { name := "namePuts", fn := fun _ => fun
  | [d] => { results := [.lit (.bool true)], args := [d] }
  | _ => none }
def namePutsRow : OpenClaim := { program := "ytagaihiemomelaadoor", sum := "069af971f0a626146556fb2a487b2170c6ffa683ca7db7df349a1c8b0e78700c", func := "grommet/grommetlaw02.NamePuts", spec := "namePuts", inPlace := ["internal/reflectlite.ValueOf", "(internal/reflectlite.Value).Type", "(internal/reflectlite.Value).IsNil", "internal/reflectlite.TypeOf", "(internal/reflectlite.Value).Elem", "(internal/reflectlite.Value).Set"], unfollowed := true, recurses := true, named := ["errors.errorType"], apart := false, laid := [("errors.errorType", laid_errors_errorType)] }
def NamePutsSaid : Prop := namePutsRow.holds Tryd.pinned (OpenSpec.ofChange namePutsSpec)

/-- ITS FALSE NEIGHBOUR: 'it returns false'. Refute it at one input. -/
def namePutsWrong : ChangeSpec := { name := "namePuts", fn := fun _ => fun
  | [d] => { results := [.lit (.bool false)], args := [d] }
  | _ => none }
def NamePutsWrongFalsely : Prop := namePutsRow.holds Tryd.pinned (OpenSpec.ofChange namePutsWrong)

/-- 'grommetlaw02.NameBack': WHATEVER THE INPUT: true; the input reads as it did. -/
def nameBackSpec : ChangeSpec := { name := "nameBack", fn := fun _ => fun
  | [d1, d2] => { results := [.lit (.bool true)], args := [d1, d2] }
  | _ => none }
def nameBackRow : OpenClaim := { program := "ytagaihiemomelaadoor", sum := "069af971f0a626146556fb2a487b2170c6ffa683ca7db7df349a1c8b0e78700c", func := "grommet/grommetlaw02.NameBack", spec := "nameBack", inPlace := ["internal/reflectlite.ValueOf", "(internal/reflectlite.Value).Type", "(internal/reflectlite.Value).IsNil", "internal/reflectlite.TypeOf", "(internal/reflectlite.Value).Elem", "(internal/reflectlite.Value).Set"], unfollowed := true, recurses := true, named := ["errors.errorType"], apart := false, laid := [("errors.errorType", laid_errors_errorType)] }
def NameBackSaid : Prop := nameBackRow.holds Tryd.pinned (OpenSpec.ofChange nameBackSpec)

/-- ITS FALSE NEIGHBOUR: 'it returns false'. Refute it at one input. -/
def nameBackWrong : ChangeSpec := { name := "nameBack", fn := fun _ => fun
  | [d1, d2] => { results := [.lit (.bool false)], args := [d1, d2] }
  | _ => none }
def NameBackWrongFalsely : Prop := nameBackRow.holds Tryd.pinned (OpenSpec.ofChange nameBackWrong)

/- THE SECOND FORM. 'bulk': how many values and letters a reading holds, each counted each time it is reached (what is shared counts as often as it is met; a slice's spare places count too). A statement '..UptoSaid' is the law's where the arguments, and the package variables that the reading takes, are together of bulk at most 1048576: NARROWER than '..Said'. Prove '..Said' where nothing that the law and all that it calls make is longer than what came in: it says more and counts as full. Else prove '..UptoSaid'. A law counts once. -/
mutual
def uptoBulk {H : Type} : DataW H → Nat
  | .lit (.string bytes) => bytes.length + 1
  | .lit _ => 1
  | .nil => 1
  | .ptr d => uptoBulk d + 1
  | .slice elems spare => uptoBulkAll elems + uptoBulkAll spare + 1
  | .agg parts => uptoBulkAll parts + 1
  | .iface _ d => uptoBulk d + 1
  | .map entries => uptoBulkEntries entries + 1
  | .held _ => 1
def uptoBulkAll {H : Type} : List (DataW H) → Nat
  | [] => 0
  | d :: r => uptoBulk d + uptoBulkAll r
def uptoBulkEntries {H : Type} : List (Lit × DataW H) → Nat
  | [] => 0
  | x :: r => uptoBulkEntry x + uptoBulkEntries r
def uptoBulkEntry {H : Type} : Lit × DataW H → Nat
  | (.string bytes, d) => bytes.length + uptoBulk d + 1
  | (_, d) => uptoBulk d + 1
 end
def uptoSmall : (H : Type) → List (DataW H) → Bool := fun _ ds => decide (uptoBulkAll ds ≤ 1048576)
def OpenSpec.upto (s : _root_.Go.ChangeSpec) : _root_.Go.OpenSpec := { _root_.Go.OpenSpec.ofChange s with cond := some uptoSmall }

/-- 'grommetlaw02.NameReads', WHERE WHAT IT READS IS OF BULK AT MOST 1048576: true; the input reads as it did. -/
def nameReadsUptoRow : OpenClaim := { program := "ytagaihiemomelaadoor", sum := "069af971f0a626146556fb2a487b2170c6ffa683ca7db7df349a1c8b0e78700c", func := "grommet/grommetlaw02.NameReads", spec := "nameReads", inPlace := ["internal/reflectlite.ValueOf", "(internal/reflectlite.Value).Type", "(internal/reflectlite.Value).IsNil", "internal/reflectlite.TypeOf", "(internal/reflectlite.Value).Elem", "(internal/reflectlite.Value).Set"], unfollowed := true, recurses := true, named := ["errors.errorType"], apart := false, laid := [("errors.errorType", laid_errors_errorType)], narrowed := true }
def NameReadsUptoSaid : Prop := nameReadsUptoRow.holds Tryd.pinned (OpenSpec.upto nameReadsSpec)

/-- 'grommetlaw02.NameParts', WHERE WHAT IT READS IS OF BULK AT MOST 1048576: true; the input reads as it did. -/
def namePartsUptoRow : OpenClaim := { program := "ytagaihiemomelaadoor", sum := "069af971f0a626146556fb2a487b2170c6ffa683ca7db7df349a1c8b0e78700c", func := "grommet/grommetlaw02.NameParts", spec := "nameParts", inPlace := ["internal/reflectlite.ValueOf", "(internal/reflectlite.Value).Type", "(internal/reflectlite.Value).IsNil", "internal/reflectlite.TypeOf", "(internal/reflectlite.Value).Elem", "(internal/reflectlite.Value).Set"], unfollowed := true, recurses := true, named := ["errors.errorType"], apart := false, laid := [("errors.errorType", laid_errors_errorType)], narrowed := true }
def NamePartsUptoSaid : Prop := namePartsUptoRow.holds Tryd.pinned (OpenSpec.upto namePartsSpec)

/-- 'grommetlaw02.NameStays', WHERE WHAT IT READS IS OF BULK AT MOST 1048576: true; the input reads as it did. -/
def nameStaysUptoRow : OpenClaim := { program := "ytagaihiemomelaadoor", sum := "069af971f0a626146556fb2a487b2170c6ffa683ca7db7df349a1c8b0e78700c", func := "grommet/grommetlaw02.NameStays", spec := "nameStays", inPlace := ["internal/reflectlite.ValueOf", "(internal/reflectlite.Value).Type", "(internal/reflectlite.Value).IsNil", "internal/reflectlite.TypeOf", "(internal/reflectlite.Value).Elem", "(internal/reflectlite.Value).Set"], unfollowed := true, recurses := true, named := ["errors.errorType"], apart := false, laid := [("errors.errorType", laid_errors_errorType)], narrowed := true }
def NameStaysUptoSaid : Prop := nameStaysUptoRow.holds Tryd.pinned (OpenSpec.upto nameStaysSpec)

/-- 'grommetlaw02.NamePuts', WHERE WHAT IT READS IS OF BULK AT MOST 1048576: true; the input reads as it did. -/
def namePutsUptoRow : OpenClaim := { program := "ytagaihiemomelaadoor", sum := "069af971f0a626146556fb2a487b2170c6ffa683ca7db7df349a1c8b0e78700c", func := "grommet/grommetlaw02.NamePuts", spec := "namePuts", inPlace := ["internal/reflectlite.ValueOf", "(internal/reflectlite.Value).Type", "(internal/reflectlite.Value).IsNil", "internal/reflectlite.TypeOf", "(internal/reflectlite.Value).Elem", "(internal/reflectlite.Value).Set"], unfollowed := true, recurses := true, named := ["errors.errorType"], apart := false, laid := [("errors.errorType", laid_errors_errorType)], narrowed := true }
def NamePutsUptoSaid : Prop := namePutsUptoRow.holds Tryd.pinned (OpenSpec.upto namePutsSpec)

/-- 'grommetlaw02.NameBack', WHERE WHAT IT READS IS OF BULK AT MOST 1048576: true; the input reads as it did. -/
def nameBackUptoRow : OpenClaim := { program := "ytagaihiemomelaadoor", sum := "069af971f0a626146556fb2a487b2170c6ffa683ca7db7df349a1c8b0e78700c", func := "grommet/grommetlaw02.NameBack", spec := "nameBack", inPlace := ["internal/reflectlite.ValueOf", "(internal/reflectlite.Value).Type", "(internal/reflectlite.Value).IsNil", "internal/reflectlite.TypeOf", "(internal/reflectlite.Value).Elem", "(internal/reflectlite.Value).Set"], unfollowed := true, recurses := true, named := ["errors.errorType"], apart := false, laid := [("errors.errorType", laid_errors_errorType)], narrowed := true }
def NameBackUptoSaid : Prop := nameBackUptoRow.holds Tryd.pinned (OpenSpec.upto nameBackSpec)

end Rows
end Go.Proofs.YtagaihiemomelaaDoor
