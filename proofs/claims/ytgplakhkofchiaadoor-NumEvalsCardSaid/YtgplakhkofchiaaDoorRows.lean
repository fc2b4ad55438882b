/-
  NARROWER THAN 'FOR EVERY INPUT', by the rows' own cells (each row's printed sentence says how): NumArgs: laid · NumEvals: laid · NumAll: laid · NumBack: laid · NumOrder: laid · NumStays: laid · NumShifts: laid.
  DERIVED. THE GIVEN ROWS OF THIS SEAT. 7 by the template 'for every input the law returns true; each argument reads behind the call as it read before'; 0 by the template 'total and deterministic' (their statements: YtgplakhkofchiaaDoorTotals.lean).
  GIVEN WITH THE SEED: the statements are not yours to turn. If you find one false, say at which input.
  Laid BY PROGRAM, IN A SANDBOX (cutbox-rows.mjs): the forced cells as the released guide's own fill.sh prints them over the translation 50d960a7e1b18266… (all of the seat's roots in one cut). By AI agents, Wed Nov 11 2026. No macro, syntax, notation, axiom, sorry.
-/
import Derived.Test.YtgplakhkofchiaaDoorChecked
import GoSem.Claim
import GoSem.ClaimJoined
import GoSem.ClaimMapViews
import Derived.JoinedTies
import Derived.KernelRfl
namespace Go.Proofs.YtgplakhkofchiaaDoor
/- THE CELL 'sum', in the pinned program and in every row, IS THE sha256 OF THE DUMP (.gsa) THAT YtgplakhkofchiaaDoorProg.lean LOADS. Nothing in Lean hashes anything: it is a label: what it is worth is what the hold of that sum in a sandbox is worth. -/
noncomputable def Tryd.pinned : Pinned := { name := "ytgplakhkofchiaadoor", sum := "50d960a7e1b18266caf2cedbb1082261fc65eb833c657507622bd8ac8d6ef1ae", checked := Tryd.checked }
namespace Rows
def none {H : Type} : Left H := { results := [], args := [] }

/- WHAT THE LISTED PACKAGE-LEVEL VARIABLES READ AS WHEN THE CALL BEGINS. Each datum BY PROGRAM (the guide's laid-datum.mjs) off the statement by which the dump's own 'gosem.cut.vars' lays the variable. In a bare row this is a premise. The card (YtgplakhkofchiaaDoorCards.lean) ties it to the program's text. -/
def laid_math_bits_deBruijn64tab {H : Type} : DataW H := .agg [.lit (.int .u8 0), .lit (.int .u8 1), .lit (.int .u8 56), .lit (.int .u8 2), .lit (.int .u8 57), .lit (.int .u8 49), .lit (.int .u8 28), .lit (.int .u8 3), .lit (.int .u8 61), .lit (.int .u8 58), .lit (.int .u8 42), .lit (.int .u8 50), .lit (.int .u8 38), .lit (.int .u8 29), .lit (.int .u8 17), .lit (.int .u8 4), .lit (.int .u8 62), .lit (.int .u8 47), .lit (.int .u8 59), .lit (.int .u8 36), .lit (.int .u8 45), .lit (.int .u8 43), .lit (.int .u8 51), .lit (.int .u8 22), .lit (.int .u8 53), .lit (.int .u8 39), .lit (.int .u8 33), .lit (.int .u8 30), .lit (.int .u8 24), .lit (.int .u8 18), .lit (.int .u8 12), .lit (.int .u8 5), .lit (.int .u8 63), .lit (.int .u8 55), .lit (.int .u8 48), .lit (.int .u8 27), .lit (.int .u8 60), .lit (.int .u8 41), .lit (.int .u8 37), .lit (.int .u8 16), .lit (.int .u8 46), .lit (.int .u8 35), .lit (.int .u8 44), .lit (.int .u8 21), .lit (.int .u8 52), .lit (.int .u8 32), .lit (.int .u8 23), .lit (.int .u8 11), .lit (.int .u8 54), .lit (.int .u8 26), .lit (.int .u8 40), .lit (.int .u8 15), .lit (.int .u8 34), .lit (.int .u8 20), .lit (.int .u8 31), .lit (.int .u8 10), .lit (.int .u8 25), .lit (.int .u8 14), .lit (.int .u8 19), .lit (.int .u8 9), .lit (.int .u8 13), .lit (.int .u8 8), .lit (.int .u8 7), .lit (.int .u8 6)]

/-- 'grommetlaw03.NumArgs': WHATEVER THE INPUT: true; the input reads as it did. -/
def numArgsSpec : ChangeSpec := { name := "numArgs", fn := fun _ => fun
  | [d] => { results := [.lit (.bool true)], args := [d] }
  | _ => none }
def numArgsRow : OpenClaim := { program := "ytgplakhkofchiaadoor", sum := "50d960a7e1b18266caf2cedbb1082261fc65eb833c657507622bd8ac8d6ef1ae", func := "grommet/grommetlaw03.NumArgs", spec := "numArgs", named := ["math/bits.deBruijn64tab"], apart := false, laid := [("math/bits.deBruijn64tab", laid_math_bits_deBruijn64tab)] }
def NumArgsSaid : Prop := numArgsRow.holds Tryd.pinned (OpenSpec.ofChange numArgsSpec)

/-- ITS FALSE NEIGHBOUR: 'it returns false'. Refute it at one input. -/
def numArgsWrong : ChangeSpec := { name := "numArgs", fn := fun _ => fun
  | [d] => { results := [.lit (.bool false)], args := [d] }
  | _ => none }
def NumArgsWrongFalsely : Prop := numArgsRow.holds Tryd.pinned (OpenSpec.ofChange numArgsWrong)

/-- 'grommetlaw03.NumEvals': WHATEVER THE INPUT: true; the input reads as it did. -/
def numEvalsSpec : ChangeSpec := { name := "numEvals", fn := fun _ => fun
  | [d1, d2] => { results := [.lit (.bool true)], args := [d1, d2] }
  | _ => none }
def numEvalsRow : OpenClaim := { program := "ytgplakhkofchiaadoor", sum := "50d960a7e1b18266caf2cedbb1082261fc65eb833c657507622bd8ac8d6ef1ae", func := "grommet/grommetlaw03.NumEvals", spec := "numEvals", named := ["math/bits.deBruijn64tab"], apart := false, laid := [("math/bits.deBruijn64tab", laid_math_bits_deBruijn64tab)] }
def NumEvalsSaid : Prop := numEvalsRow.holds Tryd.pinned (OpenSpec.ofChange numEvalsSpec)

/-- ITS FALSE NEIGHBOUR: 'it returns false'. Refute it at one input. -/
def numEvalsWrong : ChangeSpec := { name := "numEvals", fn := fun _ => fun
  | [d1, d2] => { results := [.lit (.bool false)], args := [d1, d2] }
  | _ => none }
def NumEvalsWrongFalsely : Prop := numEvalsRow.holds Tryd.pinned (OpenSpec.ofChange numEvalsWrong)

/-- 'grommetlaw03.NumAll': WHATEVER THE INPUT: true; the input reads as it did. -/
def numAllSpec : ChangeSpec := { name := "numAll", fn := fun _ => fun
  | [d1, d2] => { results := [.lit (.bool true)], args := [d1, d2] }
  | _ => none }
def numAllRow : OpenClaim := { program := "ytgplakhkofchiaadoor", sum := "50d960a7e1b18266caf2cedbb1082261fc65eb833c657507622bd8ac8d6ef1ae", func := "grommet/grommetlaw03.NumAll", spec := "numAll", named := ["math/bits.deBruijn64tab"], apart := false, laid := [("math/bits.deBruijn64tab", laid_math_bits_deBruijn64tab)] }
def NumAllSaid : Prop := numAllRow.holds Tryd.pinned (OpenSpec.ofChange numAllSpec)

/-- ITS FALSE NEIGHBOUR: 'it returns false'. Refute it at one input. -/
def numAllWrong : ChangeSpec := { name := "numAll", fn := fun _ => fun
  | [d1, d2] => { results := [.lit (.bool false)], args := [d1, d2] }
  | _ => none }
def NumAllWrongFalsely : Prop := numAllRow.holds Tryd.pinned (OpenSpec.ofChange numAllWrong)

/-- 'grommetlaw03.NumBack': WHATEVER THE INPUT: true; the input reads as it did. -/
def numBackSpec : ChangeSpec := { name := "numBack", fn := fun _ => fun
  | [d1, d2, d3] => { results := [.lit (.bool true)], args := [d1, d2, d3] }
  | _ => none }
def numBackRow : OpenClaim := { program := "ytgplakhkofchiaadoor", sum := "50d960a7e1b18266caf2cedbb1082261fc65eb833c657507622bd8ac8d6ef1ae", func := "grommet/grommetlaw03.NumBack", spec := "numBack", named := ["math/bits.deBruijn64tab"], apart := false, laid := [("math/bits.deBruijn64tab", laid_math_bits_deBruijn64tab)] }
def NumBackSaid : Prop := numBackRow.holds Tryd.pinned (OpenSpec.ofChange numBackSpec)

/-- ITS FALSE NEIGHBOUR: 'it returns false'. Refute it at one input. -/
def numBackWrong : ChangeSpec := { name := "numBack", fn := fun _ => fun
  | [d1, d2, d3] => { results := [.lit (.bool false)], args := [d1, d2, d3] }
  | _ => none }
def NumBackWrongFalsely : Prop := numBackRow.holds Tryd.pinned (OpenSpec.ofChange numBackWrong)

/-- 'grommetlaw03.NumOrder': WHATEVER THE INPUT: true; the input reads as it did. -/
def numOrderSpec : ChangeSpec := { name := "numOrder", fn := fun _ => fun
  | [d1, d2, d3] => { results := [.lit (.bool true)], args := [d1, d2, d3] }
  | _ => none }
def numOrderRow : OpenClaim := { program := "ytgplakhkofchiaadoor", sum := "50d960a7e1b18266caf2cedbb1082261fc65eb833c657507622bd8ac8d6ef1ae", func := "grommet/grommetlaw03.NumOrder", spec := "numOrder", named := ["math/bits.deBruijn64tab"], apart := false, laid := [("math/bits.deBruijn64tab", laid_math_bits_deBruijn64tab)] }
def NumOrderSaid : Prop := numOrderRow.holds Tryd.pinned (OpenSpec.ofChange numOrderSpec)

/-- ITS FALSE NEIGHBOUR: 'it returns false'. Refute it at one input. -/
def numOrderWrong : ChangeSpec := { name := "numOrder", fn := fun _ => fun
  | [d1, d2, d3] => { results := [.lit (.bool false)], args := [d1, d2, d3] }
  | _ => none }
def NumOrderWrongFalsely : Prop := numOrderRow.holds Tryd.pinned (OpenSpec.ofChange numOrderWrong)

/-- 'grommetlaw03.NumStays': WHATEVER THE INPUT: true; the input reads as it did. -/
def numStaysSpec : ChangeSpec := { name := "numStays", fn := fun _ => fun
  | [d1, d2] => { results := [.lit (.bool true)], args := [d1, d2] }
  | _ => none }
def numStaysRow : OpenClaim := { program := "ytgplakhkofchiaadoor", sum := "50d960a7e1b18266caf2cedbb1082261fc65eb833c657507622bd8ac8d6ef1ae", func := "grommet/grommetlaw03.NumStays", spec := "numStays", named := ["math/bits.deBruijn64tab"], apart := false, laid := [("math/bits.deBruijn64tab", laid_math_bits_deBruijn64tab)] }
def NumStaysSaid : Prop := numStaysRow.holds Tryd.pinned (OpenSpec.ofChange numStaysSpec)

/-- ITS FALSE NEIGHBOUR: 'it returns false'. Refute it at one input. -/
def numStaysWrong : ChangeSpec := { name := "numStays", fn := fun _ => fun
  | [d1, d2] => { results := [.lit (.bool false)], args := [d1, d2] }
  | _ => none }
def NumStaysWrongFalsely : Prop := numStaysRow.holds Tryd.pinned (OpenSpec.ofChange numStaysWrong)

/-- 'grommetlaw03.NumShifts': WHATEVER THE INPUT: true; the input reads as it did. -/
def numShiftsSpec : ChangeSpec := { name := "numShifts", fn := fun _ => fun
  | [d1, d2, d3] => { results := [.lit (.bool true)], args := [d1, d2, d3] }
  | _ => none }
def numShiftsRow : OpenClaim := { program := "ytgplakhkofchiaadoor", sum := "50d960a7e1b18266caf2cedbb1082261fc65eb833c657507622bd8ac8d6ef1ae", func := "grommet/grommetlaw03.NumShifts", spec := "numShifts", named := ["math/bits.deBruijn64tab"], apart := false, laid := [("math/bits.deBruijn64tab", laid_math_bits_deBruijn64tab)] }
def NumShiftsSaid : Prop := numShiftsRow.holds Tryd.pinned (OpenSpec.ofChange numShiftsSpec)

/-- ITS FALSE NEIGHBOUR: 'it returns false'. Refute it at one input. -/
def numShiftsWrong : ChangeSpec := { name := "numShifts", fn := fun _ => fun
  | [d1, d2, d3] => { results := [.lit (.bool false)], args := [d1, d2, d3] }
  | _ => none }
def NumShiftsWrongFalsely : Prop := numShiftsRow.holds Tryd.pinned (OpenSpec.ofChange numShiftsWrong)

/- THE SECOND FORM. 'bulk': how many values and letters a reading holds, each counted each time it is reached (what is shared counts as often as it is met; a slice's spare places count too). A statement '..UptoSaid' is the law's where the arguments, and the package variables that the reading takes, are together of bulk at most 1048576: NARROWER than '..Said'. Prove '..Said' where nothing that the law and all that it calls make is longer than what came in: it says more and counts as full. Else prove '..UptoSaid'. A law counts once. -/
mutual
def uptoBulk {H : Type} : DataW H → Nat
  | .lit (.string bytes) => bytes.length + 1
  | .lit _ => 1
  | .nil => 1
  | .ptr d => uptoBulk d + 1
  | .slice elems spare => uptoBulkAll elems + uptoBulkAll spare + 1
  | .agg parts => uptoBulkAll parts + 1
  | .iface _ d => uptoBulk d + 1
  | .map entries => uptoBulkEntries entries + 1
  | .held _ => 1
def uptoBulkAll {H : Type} : List (DataW H) → Nat
  | [] => 0
  | d :: r => uptoBulk d + uptoBulkAll r
def uptoBulkEntries {H : Type} : List (Lit × DataW H) → Nat
  | [] => 0
  | x :: r => uptoBulkEntry x + uptoBulkEntries r
def uptoBulkEntry {H : Type} : Lit × DataW H → Nat
  | (.string bytes, d) => bytes.length + uptoBulk d + 1
  | (_, d) => uptoBulk d + 1
 end
def uptoSmall : (H : Type) → List (DataW H) → Bool := fun _ ds => decide (uptoBulkAll ds ≤ 1048576)
def OpenSpec.upto (s : _root_.Go.ChangeSpec) : _root_.Go.OpenSpec := { _root_.Go.OpenSpec.ofChange s with cond := some uptoSmall }

/-- 'grommetlaw03.NumArgs', WHERE WHAT IT READS IS OF BULK AT MOST 1048576: true; the input reads as it did. -/
def numArgsUptoRow : OpenClaim := { program := "ytgplakhkofchiaadoor", sum := "50d960a7e1b18266caf2cedbb1082261fc65eb833c657507622bd8ac8d6ef1ae", func := "grommet/grommetlaw03.NumArgs", spec := "numArgs", named := ["math/bits.deBruijn64tab"], apart := false, laid := [("math/bits.deBruijn64tab", laid_math_bits_deBruijn64tab)], narrowed := true }
def NumArgsUptoSaid : Prop := numArgsUptoRow.holds Tryd.pinned (OpenSpec.upto numArgsSpec)

/-- 'grommetlaw03.NumEvals', WHERE WHAT IT READS IS OF BULK AT MOST 1048576: true; the input reads as it did. -/
def numEvalsUptoRow : OpenClaim := { program := "ytgplakhkofchiaadoor", sum := "50d960a7e1b18266caf2cedbb1082261fc65eb833c657507622bd8ac8d6ef1ae", func := "grommet/grommetlaw03.NumEvals", spec := "numEvals", named := ["math/bits.deBruijn64tab"], apart := false, laid := [("math/bits.deBruijn64tab", laid_math_bits_deBruijn64tab)], narrowed := true }
def NumEvalsUptoSaid : Prop := numEvalsUptoRow.holds Tryd.pinned (OpenSpec.upto numEvalsSpec)

/-- 'grommetlaw03.NumAll', WHERE WHAT IT READS IS OF BULK AT MOST 1048576: true; the input reads as it did. -/
def numAllUptoRow : OpenClaim := { program := "ytgplakhkofchiaadoor", sum := "50d960a7e1b18266caf2cedbb1082261fc65eb833c657507622bd8ac8d6ef1ae", func := "grommet/grommetlaw03.NumAll", spec := "numAll", named := ["math/bits.deBruijn64tab"], apart := false, laid := [("math/bits.deBruijn64tab", laid_math_bits_deBruijn64tab)], narrowed := true }
def NumAllUptoSaid : Prop := numAllUptoRow.holds Tryd.pinned (OpenSpec.upto numAllSpec)

/-- 'grommetlaw03.NumBack', WHERE WHAT IT READS IS OF BULK AT MOST 1048576: true; the input reads as it did. -/
def numBackUptoRow : OpenClaim := { program := "ytgplakhkofchiaadoor", sum := "50d960a7e1b18266caf2cedbb1082261fc65eb833c657507622bd8ac8d6ef1ae", func := "grommet/grommetlaw03.NumBack", spec := "numBack", named := ["math/bits.deBruijn64tab"], apart := false, laid := [("math/bits.deBruijn64tab", laid_math_bits_deBruijn64tab)], narrowed := true }
def NumBackUptoSaid : Prop := numBackUptoRow.holds Tryd.pinned (OpenSpec.upto numBackSpec)

/-- 'grommetlaw03.NumOrder', WHERE WHAT IT READS IS OF BULK AT MOST 1048576: true; the input reads as it did. -/
def numOrderUptoRow : OpenClaim := { program := "ytgplakhkofchiaadoor", sum := "50d960a7e1b18266caf2cedbb1082261fc65eb833c657507622bd8ac8d6ef1ae", func := "grommet/grommetlaw03.NumOrder", spec := "numOrder", named := ["math/bits.deBruijn64tab"], apart := false, laid := [("math/bits.deBruijn64tab", laid_math_bits_deBruijn64tab)], narrowed := true }
def NumOrderUptoSaid : Prop := numOrderUptoRow.holds Tryd.pinned (OpenSpec.upto numOrderSpec)

/-- 'grommetlaw03.NumStays', WHERE WHAT IT READS IS OF BULK AT MOST 1048576: true; the input reads as it did. -/
def numStaysUptoRow : OpenClaim := { program := "ytgplakhkofchiaadoor", sum := "50d960a7e1b18266caf2cedbb1082261fc65eb833c657507622bd8ac8d6ef1ae", func := "grommet/grommetlaw03.NumStays", spec := "numStays", named := ["math/bits.deBruijn64tab"], apart := false, laid := [("math/bits.deBruijn64tab", laid_math_bits_deBruijn64tab)], narrowed := true }
def NumStaysUptoSaid : Prop := numStaysUptoRow.holds Tryd.pinned (OpenSpec.upto numStaysSpec)

/-- 'grommetlaw03.NumShifts', WHERE WHAT IT READS IS OF BULK AT MOST 1048576: true; the input reads as it did. -/
def numShiftsUptoRow : OpenClaim := { program := "ytgplakhkofchiaadoor", sum := "50d960a7e1b18266caf2cedbb1082261fc65eb833c657507622bd8ac8d6ef1ae", func := "grommet/grommetlaw03.NumShifts", spec := "numShifts", named := ["math/bits.deBruijn64tab"], apart := false, laid := [("math/bits.deBruijn64tab", laid_math_bits_deBruijn64tab)], narrowed := true }
def NumShiftsUptoSaid : Prop := numShiftsUptoRow.holds Tryd.pinned (OpenSpec.upto numShiftsSpec)

end Rows
end Go.Proofs.YtgplakhkofchiaaDoor
