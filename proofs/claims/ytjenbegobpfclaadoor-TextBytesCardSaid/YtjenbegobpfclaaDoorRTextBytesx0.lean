-- Made by the program wip/patchprint.py (this session's own, over the kit's print)
import Derived.Test.YtjenbegobpfclaaDoorProg
import Derived.Below
import Derived.Deep.Draws
import Derived.Deep.AppendLies
import Derived.Maps.AppendAt
import Derived.OwnWalk
import Derived.Laws.BytesArg
import Derived.Laws.MakeOwn
import Derived.Laws.OwnMore
import Derived.Deep.OwnRows
import Derived.Tactics
import Derived.Lib.ConvBytes
import Derived.Laws.Slices
import Derived.WalkKit
import Derived.KernelRfl
import Derived.RowKit3
import Derived.Deep.LoopGhost
import Derived.Deep.QuietTactic
import Derived.BigQuiet
import Derived.WideLaws
import Derived.Deep.DeepCutAuto
import Derived.Deep.CutBlock
import Derived.Deep.RegionHeld3
import Derived.Laws.Rows
import Derived.Lib.AppendStr
import Derived.ArgAppend
import Derived.Laws.IdiomCopy
import Derived.OrdersHeld
import Derived.Laws.BitsLemmas
import Derived.RowKit
import Derived.Test.YtjenbegobpfclaaDoorWWords
import Derived.Test.YtjenbegobpfclaaDoorWLast
import Derived.Test.YtjenbegobpfclaaDoorWTab
import Derived.Test.YtjenbegobpfclaaDoorWFour
import Derived.Test.YtjenbegobpfclaaDoorWQPut
import Derived.Test.YtjenbegobpfclaaDoorWApart
import Derived.Test.YtjenbegobpfclaaDoorWArr
import Derived.Test.YtjenbegobpfclaaDoorWZeros
import Derived.Test.YtjenbegobpfclaaDoorWFoot
import Derived.Test.YtjenbegobpfclaaDoorWKept
import Derived.Test.YtjenbegobpfclaaDoorWShare
import Derived.Test.YtjenbegobpfclaaDoorWN
import Derived.Test.YtjenbegobpfclaaDoorWFootNe
import Derived.Test.YtjenbegobpfclaaDoorWAt
import Derived.Test.YtjenbegobpfclaaDoorWEqStruct
import Derived.Test.YtjenbegobpfclaaDoorWRepsOne
import Derived.Test.YtjenbegobpfclaaDoorWInv
import Derived.Test.YtjenbegobpfclaaDoorWInvWords
import Derived.Test.YtjenbegobpfclaaDoorWGuard
import Derived.Test.YtjenbegobpfclaaDoorWNEv
import Derived.Test.YtjenbegobpfclaaDoorWMore
import Derived.Test.YtjenbegobpfclaaDoorMn4
namespace Go.Proofs.YtjenbegobpfclaaDoor.RTextBytes
open Go.RowKit Go.Proofs.YtjenbegobpfclaaDoor.Man Go.Proofs.YtjenbegobpfclaaDoorW.PrintWords Go.Proofs.YtjenbegobpfclaaDoorW.PrintLast Go.Proofs.YtjenbegobpfclaaDoorW.PrintMore
attribute [local go_sem] max2_int min2_int max_two min_two max_three min_three max_four min_four   -- for this text's walks alone
set_option linter.unusedVariables false
set_option linter.unusedSimpArgs false
set_option linter.unnecessarySimpa false



def errW : Option Int → Value
  | none => .nilIface
  | some c => .iface 31 (.int .i64 c)
theorem errW_none : errW none = .nilIface := rfl
theorem errW_some (c : Int) : errW (some c) = .iface 31 (.int .i64 c) := rfl

theorem shl_zero (k : IntKind) (y : Int) : shl k 0 y = 0 := by
  unfold shl
  rw [Int.zero_mul]
  cases k <;> rfl
theorem info3 : (Tryd.prog.info? 3).map (fun i => (i.zero, i.size, i.bytes)) = some (some (.int .i64 0), 1, 8) := by kernel_rfl
theorem info5 : (Tryd.prog.info? 5).map (fun i => (i.zero, i.size, i.bytes)) = some (some (.int .u8 0), 1, 1) := by kernel_rfl
-- the values' own types

end Go.Proofs.YtjenbegobpfclaaDoor.RTextBytes
