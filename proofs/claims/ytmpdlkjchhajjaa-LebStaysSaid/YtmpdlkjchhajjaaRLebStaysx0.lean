-- Made by the program wip/patchprint.py (this session's own, over the kit's print)
import Derived.Test.YtmpdlkjchhajjaaProg
import Derived.Below
import Derived.Deep.Draws
import Derived.Deep.AppendLies
import Derived.Maps.AppendAt
import Derived.OwnWalk
import Derived.Laws.BytesArg
import Derived.Laws.MakeOwn
import Derived.Laws.OwnMore
import Derived.Deep.OwnRows
import Derived.Tactics
import Derived.Lib.ConvBytes
import Derived.Laws.Slices
import Derived.WalkKit
import Derived.KernelRfl
import Derived.RowKit3
import Derived.Deep.LoopGhost
import Derived.Deep.QuietTactic
import Derived.BigQuiet
import Derived.WideLaws
import Derived.Deep.DeepCutAuto
import Derived.Deep.CutBlock
import Derived.Deep.RegionHeld3
import Derived.Laws.Rows
import Derived.Lib.AppendStr
import Derived.ArgAppend
import Derived.Laws.IdiomCopy
import Derived.OrdersHeld
import Derived.Laws.BitsLemmas
import Derived.RowKit
import Derived.Test.YtmpdlkjchhajjaaWWords
import Derived.Test.YtmpdlkjchhajjaaWLast
import Derived.Test.YtmpdlkjchhajjaaWTab
import Derived.Test.YtmpdlkjchhajjaaWFour
import Derived.Test.YtmpdlkjchhajjaaWQPut
import Derived.Test.YtmpdlkjchhajjaaWApart
import Derived.Test.YtmpdlkjchhajjaaWArr
import Derived.Test.YtmpdlkjchhajjaaWZeros
import Derived.Test.YtmpdlkjchhajjaaWFoot
import Derived.Test.YtmpdlkjchhajjaaWKept
import Derived.Test.YtmpdlkjchhajjaaWShare
import Derived.Test.YtmpdlkjchhajjaaWN
import Derived.Test.YtmpdlkjchhajjaaWFootNe
import Derived.Test.YtmpdlkjchhajjaaWAt
import Derived.Test.YtmpdlkjchhajjaaWEqStruct
import Derived.Test.YtmpdlkjchhajjaaWRepsOne
import Derived.Test.YtmpdlkjchhajjaaWInv
import Derived.Test.YtmpdlkjchhajjaaWInvWords
import Derived.Test.YtmpdlkjchhajjaaWGuard
import Derived.Test.YtmpdlkjchhajjaaWNEv
import Derived.Test.YtmpdlkjchhajjaaWMore
namespace Go.Proofs.Ytmpdlkjchhajjaa.RLebStays
open Go.RowKit Go.Proofs.YtmpdlkjchhajjaaW.PrintWords Go.Proofs.YtmpdlkjchhajjaaW.PrintLast Go.Proofs.YtmpdlkjchhajjaaW.PrintMore
attribute [local go_sem] max2_int min2_int max_two min_two max_three min_three max_four min_four   -- for this text's walks alone
set_option linter.unusedVariables false
set_option linter.unusedSimpArgs false
set_option linter.unnecessarySimpa false



def errW : Option Int → Value
  | none => .nilIface
  | some c => .iface 31 (.int .i64 c)
theorem errW_none : errW none = .nilIface := rfl
theorem errW_some (c : Int) : errW (some c) = .iface 31 (.int .i64 c) := rfl

theorem info5 : (Try.prog.info? 5).map (fun i => (i.zero, i.size, i.bytes)) = some (some (.int .u8 0), 1, 1) := by kernel_rfl
-- the values' own types

end Go.Proofs.Ytmpdlkjchhajjaa.RLebStays
