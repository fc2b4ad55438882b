/-
  NARROWER THAN 'FOR EVERY INPUT', by the rows' own cells (each row's printed sentence says how): SectSplits: laid · SectJoins: laid · SectBack: laid · SectStays: laid · SectMore: laid.
  DERIVED. THE GIVEN ROWS OF THIS SEAT. 5 by the template 'for every input the law returns true; each argument reads behind the call as it read before'; 0 by the template 'total and deterministic' (their statements: YtibeoejnfpbcfaaDoorTotals.lean).
  GIVEN WITH THE SEED: the statements are not yours to turn. If you find one false, say at which input.
  Laid BY PROGRAM, IN A SANDBOX (cutbox-rows.mjs): the forced cells as the released guide's own fill.sh prints them over the translation 018ec50d5b0dfe22… (all of the seat's roots in one cut). By AI agents, Wed Nov 11 2026. No macro, syntax, notation, axiom, sorry.
-/
import Derived.Test.YtibeoejnfpbcfaaDoorChecked
import GoSem.Claim
import GoSem.ClaimJoined
import GoSem.ClaimMapViews
import Derived.JoinedTies
import Derived.KernelRfl
namespace Go.Proofs.YtibeoejnfpbcfaaDoor
/- THE CELL 'sum', in the pinned program and in every row, IS THE sha256 OF THE DUMP (.gsa) THAT YtibeoejnfpbcfaaDoorProg.lean LOADS. Nothing in Lean hashes anything: it is a label: what it is worth is what the hold of that sum in a sandbox is worth. -/
noncomputable def Tryd.pinned : Pinned := { name := "ytibeoejnfpbcfaadoor", sum := "018ec50d5b0dfe227778b4b666faa93237701733a4bc8ac3a5984599b4d6a5e4", checked := Tryd.checked }
namespace Rows
def none {H : Type} : Left H := { results := [], args := [] }

/- WHAT THE LISTED PACKAGE-LEVEL VARIABLES READ AS WHEN THE CALL BEGINS. Each datum BY PROGRAM (the guide's laid-datum.mjs) off the statement by which the dump's own 'gosem.cut.vars' lays the variable. In a bare row this is a premise. The card (YtibeoejnfpbcfaaDoorCards.lean) ties it to the program's text. -/
def laid_errors_errorType {H : Type} : DataW H := .iface "internal/reflectlite.rtype" (.agg [.ptr (.lit (.string [101, 114, 114, 111, 114]))])

/-- 'grommetlaw07.SectSplits': WHATEVER THE INPUT: true; the input reads as it did. -/
def sectSplitsSpec : ChangeSpec := { name := "sectSplits", fn := fun _ => fun
  | [d] => { results := [.lit (.bool true)], args := [d] }
  | _ => none }
def sectSplitsRow : OpenClaim := { program := "ytibeoejnfpbcfaadoor", sum := "018ec50d5b0dfe227778b4b666faa93237701733a4bc8ac3a5984599b4d6a5e4", func := "grommet/grommetlaw07.SectSplits", spec := "sectSplits", inPlace := ["internal/reflectlite.ValueOf", "(internal/reflectlite.Value).Type", "(internal/reflectlite.Value).IsNil", "internal/reflectlite.TypeOf", "(internal/reflectlite.Value).Elem", "(internal/reflectlite.Value).Set"], unfollowed := true, recurses := true, named := ["errors.errorType"], apart := false, laid := [("errors.errorType", laid_errors_errorType)] }
def SectSplitsSaid : Prop := sectSplitsRow.holds Tryd.pinned (OpenSpec.ofChange sectSplitsSpec)

/-- ITS FALSE NEIGHBOUR: 'it returns false'. Refute it at one input. -/
def sectSplitsWrong : ChangeSpec := { name := "sectSplits", fn := fun _ => fun
  | [d] => { results := [.lit (.bool false)], args := [d] }
  | _ => none }
def SectSplitsWrongFalsely : Prop := sectSplitsRow.holds Tryd.pinned (OpenSpec.ofChange sectSplitsWrong)

/-- 'grommetlaw07.SectJoins': WHATEVER THE INPUT: true; the input reads as it did. -/
def sectJoinsSpec : ChangeSpec := { name := "sectJoins", fn := fun _ => fun
  | [d] => { results := [.lit (.bool true)], args := [d] }
  | _ => none }
def sectJoinsRow : OpenClaim := { program := "ytibeoejnfpbcfaadoor", sum := "018ec50d5b0dfe227778b4b666faa93237701733a4bc8ac3a5984599b4d6a5e4", func := "grommet/grommetlaw07.SectJoins", spec := "sectJoins", inPlace := ["internal/reflectlite.ValueOf", "(internal/reflectlite.Value).Type", "(internal/reflectlite.Value).IsNil", "internal/reflectlite.TypeOf", "(internal/reflectlite.Value).Elem", "(internal/reflectlite.Value).Set"], unfollowed := true, recurses := true, named := ["errors.errorType"], apart := false, laid := [("errors.errorType", laid_errors_errorType)] }
def SectJoinsSaid : Prop := sectJoinsRow.holds Tryd.pinned (OpenSpec.ofChange sectJoinsSpec)

/-- ITS FALSE NEIGHBOUR: 'it returns false'. Refute it at one input. -/
def sectJoinsWrong : ChangeSpec := { name := "sectJoins", fn := fun _ => fun
  | [d] => { results := [.lit (.bool false)], args := [d] }
  | _ => none }
def SectJoinsWrongFalsely : Prop := sectJoinsRow.holds Tryd.pinned (OpenSpec.ofChange sectJoinsWrong)

/-- 'grommetlaw07.SectBack': WHATEVER THE INPUT: true; the input reads as it did. -/
def sectBackSpec : ChangeSpec := { name := "sectBack", fn := fun _ => fun
  | [d1, d2] => { results := [.lit (.bool true)], args := [d1, d2] }
  | _ => none }
def sectBackRow : OpenClaim := { program := "ytibeoejnfpbcfaadoor", sum := "018ec50d5b0dfe227778b4b666faa93237701733a4bc8ac3a5984599b4d6a5e4", func := "grommet/grommetlaw07.SectBack", spec := "sectBack", inPlace := ["internal/reflectlite.ValueOf", "(internal/reflectlite.Value).Type", "(internal/reflectlite.Value).IsNil", "internal/reflectlite.TypeOf", "(internal/reflectlite.Value).Elem", "(internal/reflectlite.Value).Set"], unfollowed := true, recurses := true, named := ["errors.errorType"], apart := false, laid := [("errors.errorType", laid_errors_errorType)] }
def SectBackSaid : Prop := sectBackRow.holds Tryd.pinned (OpenSpec.ofChange sectBackSpec)

/-- ITS FALSE NEIGHBOUR: 'it returns false'. Refute it at one input. -/
def sectBackWrong : ChangeSpec := { name := "sectBack", fn := fun _ => fun
  | [d1, d2] => { results := [.lit (.bool false)], args := [d1, d2] }
  | _ => none }
def SectBackWrongFalsely : Prop := sectBackRow.holds Tryd.pinned (OpenSpec.ofChange sectBackWrong)

/-- 'grommetlaw07.SectStays': WHATEVER THE INPUT: true; the input reads as it did. -/
def sectStaysSpec : ChangeSpec := { name := "sectStays", fn := fun _ => fun
  | [d1, d2] => { results := [.lit (.bool true)], args := [d1, d2] }
  | _ => none }
def sectStaysRow : OpenClaim := { program := "ytibeoejnfpbcfaadoor", sum := "018ec50d5b0dfe227778b4b666faa93237701733a4bc8ac3a5984599b4d6a5e4", func := "grommet/grommetlaw07.SectStays", spec := "sectStays", inPlace := ["internal/reflectlite.ValueOf", "(internal/reflectlite.Value).Type", "(internal/reflectlite.Value).IsNil", "internal/reflectlite.TypeOf", "(internal/reflectlite.Value).Elem", "(internal/reflectlite.Value).Set"], unfollowed := true, recurses := true, named := ["errors.errorType"], apart := false, laid := [("errors.errorType", laid_errors_errorType)] }
def SectStaysSaid : Prop := sectStaysRow.holds Tryd.pinned (OpenSpec.ofChange sectStaysSpec)

/-- ITS FALSE NEIGHBOUR: 'it returns false'. Refute it at one input. -/
def sectStaysWrong : ChangeSpec := { name := "sectStays", fn := fun _ => fun
  | [d1, d2] => { results := [.lit (.bool false)], args := [d1, d2] }
  | _ => none }
def SectStaysWrongFalsely : Prop := sectStaysRow.holds Tryd.pinned (OpenSpec.ofChange sectStaysWrong)

/-- 'grommetlaw07.SectMore': WHATEVER THE INPUT: true; the input reads as it did. -/
def sectMoreSpec : ChangeSpec := { name := "sectMore", fn := fun _ => fun
  | [d1, d2] => { results := [.lit (.bool true)], args := [d1, d2] }
  | _ => none }
def sectMoreRow : OpenClaim := { program := "ytibeoejnfpbcfaadoor", sum := "018ec50d5b0dfe227778b4b666faa93237701733a4bc8ac3a5984599b4d6a5e4", func := "grommet/grommetlaw07.SectMore", spec := "sectMore", inPlace := ["internal/reflectlite.ValueOf", "(internal/reflectlite.Value).Type", "(internal/reflectlite.Value).IsNil", "internal/reflectlite.TypeOf", "(internal/reflectlite.Value).Elem", "(internal/reflectlite.Value).Set"], unfollowed := true, recurses := true, named := ["errors.errorType"], apart := false, laid := [("errors.errorType", laid_errors_errorType)] }
def SectMoreSaid : Prop := sectMoreRow.holds Tryd.pinned (OpenSpec.ofChange sectMoreSpec)

/-- ITS FALSE NEIGHBOUR: 'it returns false'. Refute it at one input. -/
def sectMoreWrong : ChangeSpec := { name := "sectMore", fn := fun _ => fun
  | [d1, d2] => { results := [.lit (.bool false)], args := [d1, d2] }
  | _ => none }
def SectMoreWrongFalsely : Prop := sectMoreRow.holds Tryd.pinned (OpenSpec.ofChange sectMoreWrong)

/- THE SECOND FORM. 'bulk': how many values and letters a reading holds, each counted each time it is reached (what is shared counts as often as it is met; a slice's spare places count too). A statement '..UptoSaid' is the law's where the arguments, and the package variables that the reading takes, are together of bulk at most 1048576: NARROWER than '..Said'. Prove '..Said' where nothing that the law and all that it calls make is longer than what came in: it says more and counts as full. Else prove '..UptoSaid'. A law counts once. -/
mutual
def uptoBulk {H : Type} : DataW H → Nat
  | .lit (.string bytes) => bytes.length + 1
  | .lit _ => 1
  | .nil => 1
  | .ptr d => uptoBulk d + 1
  | .slice elems spare => uptoBulkAll elems + uptoBulkAll spare + 1
  | .agg parts => uptoBulkAll parts + 1
  | .iface _ d => uptoBulk d + 1
  | .map entries => uptoBulkEntries entries + 1
  | .held _ => 1
def uptoBulkAll {H : Type} : List (DataW H) → Nat
  | [] => 0
  | d :: r => uptoBulk d + uptoBulkAll r
def uptoBulkEntries {H : Type} : List (Lit × DataW H) → Nat
  | [] => 0
  | x :: r => uptoBulkEntry x + uptoBulkEntries r
def uptoBulkEntry {H : Type} : Lit × DataW H → Nat
  | (.string bytes, d) => bytes.length + uptoBulk d + 1
  | (_, d) => uptoBulk d + 1
 end
def uptoSmall : (H : Type) → List (DataW H) → Bool := fun _ ds => decide (uptoBulkAll ds ≤ 1048576)
def OpenSpec.upto (s : _root_.Go.ChangeSpec) : _root_.Go.OpenSpec := { _root_.Go.OpenSpec.ofChange s with cond := some uptoSmall }

/-- 'grommetlaw07.SectSplits', WHERE WHAT IT READS IS OF BULK AT MOST 1048576: true; the input reads as it did. -/
def sectSplitsUptoRow : OpenClaim := { program := "ytibeoejnfpbcfaadoor", sum := "018ec50d5b0dfe227778b4b666faa93237701733a4bc8ac3a5984599b4d6a5e4", func := "grommet/grommetlaw07.SectSplits", spec := "sectSplits", inPlace := ["internal/reflectlite.ValueOf", "(internal/reflectlite.Value).Type", "(internal/reflectlite.Value).IsNil", "internal/reflectlite.TypeOf", "(internal/reflectlite.Value).Elem", "(internal/reflectlite.Value).Set"], unfollowed := true, recurses := true, named := ["errors.errorType"], apart := false, laid := [("errors.errorType", laid_errors_errorType)], narrowed := true }
def SectSplitsUptoSaid : Prop := sectSplitsUptoRow.holds Tryd.pinned (OpenSpec.upto sectSplitsSpec)

/-- 'grommetlaw07.SectJoins', WHERE WHAT IT READS IS OF BULK AT MOST 1048576: true; the input reads as it did. -/
def sectJoinsUptoRow : OpenClaim := { program := "ytibeoejnfpbcfaadoor", sum := "018ec50d5b0dfe227778b4b666faa93237701733a4bc8ac3a5984599b4d6a5e4", func := "grommet/grommetlaw07.SectJoins", spec := "sectJoins", inPlace := ["internal/reflectlite.ValueOf", "(internal/reflectlite.Value).Type", "(internal/reflectlite.Value).IsNil", "internal/reflectlite.TypeOf", "(internal/reflectlite.Value).Elem", "(internal/reflectlite.Value).Set"], unfollowed := true, recurses := true, named := ["errors.errorType"], apart := false, laid := [("errors.errorType", laid_errors_errorType)], narrowed := true }
def SectJoinsUptoSaid : Prop := sectJoinsUptoRow.holds Tryd.pinned (OpenSpec.upto sectJoinsSpec)

/-- 'grommetlaw07.SectBack', WHERE WHAT IT READS IS OF BULK AT MOST 1048576: true; the input reads as it did. -/
def sectBackUptoRow : OpenClaim := { program := "ytibeoejnfpbcfaadoor", sum := "018ec50d5b0dfe227778b4b666faa93237701733a4bc8ac3a5984599b4d6a5e4", func := "grommet/grommetlaw07.SectBack", spec := "sectBack", inPlace := ["internal/reflectlite.ValueOf", "(internal/reflectlite.Value).Type", "(internal/reflectlite.Value).IsNil", "internal/reflectlite.TypeOf", "(internal/reflectlite.Value).Elem", "(internal/reflectlite.Value).Set"], unfollowed := true, recurses := true, named := ["errors.errorType"], apart := false, laid := [("errors.errorType", laid_errors_errorType)], narrowed := true }
def SectBackUptoSaid : Prop := sectBackUptoRow.holds Tryd.pinned (OpenSpec.upto sectBackSpec)

/-- 'grommetlaw07.SectStays', WHERE WHAT IT READS IS OF BULK AT MOST 1048576: true; the input reads as it did. -/
def sectStaysUptoRow : OpenClaim := { program := "ytibeoejnfpbcfaadoor", sum := "018ec50d5b0dfe227778b4b666faa93237701733a4bc8ac3a5984599b4d6a5e4", func := "grommet/grommetlaw07.SectStays", spec := "sectStays", inPlace := ["internal/reflectlite.ValueOf", "(internal/reflectlite.Value).Type", "(internal/reflectlite.Value).IsNil", "internal/reflectlite.TypeOf", "(internal/reflectlite.Value).Elem", "(internal/reflectlite.Value).Set"], unfollowed := true, recurses := true, named := ["errors.errorType"], apart := false, laid := [("errors.errorType", laid_errors_errorType)], narrowed := true }
def SectStaysUptoSaid : Prop := sectStaysUptoRow.holds Tryd.pinned (OpenSpec.upto sectStaysSpec)

/-- 'grommetlaw07.SectMore', WHERE WHAT IT READS IS OF BULK AT MOST 1048576: true; the input reads as it did. -/
def sectMoreUptoRow : OpenClaim := { program := "ytibeoejnfpbcfaadoor", sum := "018ec50d5b0dfe227778b4b666faa93237701733a4bc8ac3a5984599b4d6a5e4", func := "grommet/grommetlaw07.SectMore", spec := "sectMore", inPlace := ["internal/reflectlite.ValueOf", "(internal/reflectlite.Value).Type", "(internal/reflectlite.Value).IsNil", "internal/reflectlite.TypeOf", "(internal/reflectlite.Value).Elem", "(internal/reflectlite.Value).Set"], unfollowed := true, recurses := true, named := ["errors.errorType"], apart := false, laid := [("errors.errorType", laid_errors_errorType)], narrowed := true }
def SectMoreUptoSaid : Prop := sectMoreUptoRow.holds Tryd.pinned (OpenSpec.upto sectMoreSpec)

end Rows
end Go.Proofs.YtibeoejnfpbcfaaDoor
