-- Made by the program wip/patchprint.py (this session's own, over the kit's print)
import Derived.Test.YtagaihiemomelaaDoorProg
import Derived.Below
import Derived.Deep.Draws
import Derived.Deep.AppendLies
import Derived.Maps.AppendAt
import Derived.OwnWalk
import Derived.Laws.BytesArg
import Derived.Laws.MakeOwn
import Derived.Laws.OwnMore
import Derived.Deep.OwnRows
import Derived.Tactics
import Derived.Lib.ConvBytes
import Derived.Laws.Slices
import Derived.WalkKit
import Derived.KernelRfl
import Derived.RowKit3
import Derived.Deep.LoopGhost
import Derived.Deep.QuietTactic
import Derived.BigQuiet
import Derived.WideLaws
import Derived.Deep.DeepCutAuto
import Derived.Deep.CutBlock
import Derived.Deep.RegionHeld3
import Derived.Laws.Rows
import Derived.Lib.AppendStr
import Derived.ArgAppend
import Derived.Laws.IdiomCopy
import Derived.OrdersHeld
import Derived.Laws.BitsLemmas
import Derived.RowKit
import Derived.Test.YtagaihiemomelaaDoorWWords
import Derived.Test.YtagaihiemomelaaDoorWLast
import Derived.Test.YtagaihiemomelaaDoorWTab
import Derived.Test.YtagaihiemomelaaDoorWFour
import Derived.Test.YtagaihiemomelaaDoorWQPut
import Derived.Test.YtagaihiemomelaaDoorWApart
import Derived.Test.YtagaihiemomelaaDoorWArr
import Derived.Test.YtagaihiemomelaaDoorWZeros
import Derived.Test.YtagaihiemomelaaDoorWFoot
import Derived.Test.YtagaihiemomelaaDoorWKept
import Derived.Test.YtagaihiemomelaaDoorWShare
import Derived.Test.YtagaihiemomelaaDoorWN
import Derived.Test.YtagaihiemomelaaDoorWFootNe
import Derived.Test.YtagaihiemomelaaDoorWAt
import Derived.Test.YtagaihiemomelaaDoorWEqStruct
import Derived.Test.YtagaihiemomelaaDoorWRepsOne
import Derived.Test.YtagaihiemomelaaDoorWInv
import Derived.Test.YtagaihiemomelaaDoorWInvWords
import Derived.Test.YtagaihiemomelaaDoorWGuard
import Derived.Test.YtagaihiemomelaaDoorWNEv
import Derived.Test.YtagaihiemomelaaDoorWMore
namespace Go.Proofs.YtagaihiemomelaaDoor.RNameReads
open Go.RowKit Go.Proofs.YtagaihiemomelaaDoorW.PrintWords Go.Proofs.YtagaihiemomelaaDoorW.PrintLast Go.Proofs.YtagaihiemomelaaDoorW.PrintMore
attribute [local go_sem] max2_int min2_int max_two min_two max_three min_three max_four min_four   -- for this text's walks alone
set_option linter.unusedVariables false
set_option linter.unusedSimpArgs false
set_option linter.unnecessarySimpa false



def errW : Option Int → Value
  | none => .nilIface
  | some c => .iface 33 (.int .i64 c)
theorem errW_none : errW none = .nilIface := rfl
theorem errW_some (c : Int) : errW (some c) = .iface 33 (.int .i64 c) := rfl

theorem shl_zero (k : IntKind) (y : Int) : shl k 0 y = 0 := by
  unfold shl
  rw [Int.zero_mul]
  cases k <;> rfl
theorem info3 : (Tryd.prog.info? 3).map (fun i => (i.zero, i.size, i.bytes)) = some (some (.int .i64 0), 1, 8) := by kernel_rfl
theorem info5 : (Tryd.prog.info? 5).map (fun i => (i.zero, i.size, i.bytes)) = some (some (.int .u8 0), 1, 1) := by kernel_rfl
-- the values' own types

end Go.Proofs.YtagaihiemomelaaDoor.RNameReads
