-- Made by the program wip/patchprint.py (this session's own, over the kit's print)
import Derived.Test.YtmpdlkjchhajjaaProg
import Derived.Below
import Derived.Deep.Draws
import Derived.Deep.AppendLies
import Derived.Maps.AppendAt
import Derived.OwnWalk
import Derived.Laws.BytesArg
import Derived.Laws.MakeOwn
import Derived.Laws.OwnMore
import Derived.Deep.OwnRows
import Derived.Tactics
import Derived.Lib.ConvBytes
import Derived.Laws.Slices
import Derived.WalkKit
import Derived.KernelRfl
import Derived.RowKit3
import Derived.Deep.LoopGhost
import Derived.Deep.QuietTactic
import Derived.BigQuiet
import Derived.WideLaws
import Derived.Deep.DeepCutAuto
import Derived.Deep.CutBlock
import Derived.Deep.RegionHeld3
import Derived.Laws.Rows
import Derived.Lib.AppendStr
import Derived.ArgAppend
import Derived.Laws.IdiomCopy
import Derived.OrdersHeld
import Derived.Laws.BitsLemmas
import Derived.RowKit
import Derived.Test.YtmpdlkjchhajjaaWWords
import Derived.Test.YtmpdlkjchhajjaaWLast
import Derived.Test.YtmpdlkjchhajjaaWTab
import Derived.Test.YtmpdlkjchhajjaaWFour
import Derived.Test.YtmpdlkjchhajjaaWQPut
import Derived.Test.YtmpdlkjchhajjaaWApart
import Derived.Test.YtmpdlkjchhajjaaWArr
import Derived.Test.YtmpdlkjchhajjaaWZeros
import Derived.Test.YtmpdlkjchhajjaaWFoot
import Derived.Test.YtmpdlkjchhajjaaWKept
import Derived.Test.YtmpdlkjchhajjaaWShare
import Derived.Test.YtmpdlkjchhajjaaWN
import Derived.Test.YtmpdlkjchhajjaaWFootNe
import Derived.Test.YtmpdlkjchhajjaaWAt
import Derived.Test.YtmpdlkjchhajjaaWEqStruct
import Derived.Test.YtmpdlkjchhajjaaWRepsOne
import Derived.Test.YtmpdlkjchhajjaaWInv
import Derived.Test.YtmpdlkjchhajjaaWInvWords
import Derived.Test.YtmpdlkjchhajjaaWGuard
import Derived.Test.YtmpdlkjchhajjaaWNEv
import Derived.Test.YtmpdlkjchhajjaaWMore
namespace Go.Proofs.Ytmpdlkjchhajjaa.RLebPuts
open Go.RowKit Go.Proofs.YtmpdlkjchhajjaaW.PrintWords Go.Proofs.YtmpdlkjchhajjaaW.PrintLast Go.Proofs.YtmpdlkjchhajjaaW.PrintMore
attribute [local go_sem] max2_int min2_int max_two min_two max_three min_three max_four min_four   -- for this text's walks alone
set_option linter.unusedVariables false
set_option linter.unusedSimpArgs false
set_option linter.unnecessarySimpa false



def errW : Option Int → Value
  | none => .nilIface
  | some c => .iface 31 (.int .i64 c)
theorem errW_none : errW none = .nilIface := rfl
theorem errW_some (c : Int) : errW (some c) = .iface 31 (.int .i64 c) := rfl

section
open Go
theorem equalIn_err (w : World) (d : Nat) (a b : Int) : (Op.equalIn (d + 2) 26 (.iface 31 (.int .i64 a)) (.iface 31 (.int .i64 b))).run Try.prog w = .ok (a == b) w := by
  obtain ⟨ms, hi⟩ : ∃ ms, Try.prog.underlying 26 = some (.interface ms) := ⟨Try.prog.methodsAt 26, by kernel_rfl⟩
  have hn : Try.prog.underlying 31 = some (.int .i64) := by kernel_rfl
  obtain ⟨i, hinfo, hcomp⟩ : ∃ i, Try.prog.info? 31 = some i ∧ i.comparable = true := by
    have h : (Try.prog.info? 31).map (·.comparable) = some true := by kernel_rfl
    cases hq : Try.prog.info? 31 with
    | none => rw [hq] at h; cases h
    | some i => rw [hq] at h; exact ⟨i, rfl, Option.some.inj h⟩
  simp [Op.equalIn, run_underlying hi, run_underlying hn, typeInfo, hinfo, hcomp]
theorem err_eql (w : World) (a b : Int) : (binOp .eql 26 (.iface 31 (.int .i64 a)) (.iface 31 (.int .i64 b))).run Try.prog w = .ok (.bool (a == b)) w := by
  simp only [binOp]
  simp [Op.equal, Op.maxDepth, equalIn_err w 9998 a b]
theorem err_neq (w : World) (a b : Int) : (binOp .neq 26 (.iface 31 (.int .i64 a)) (.iface 31 (.int .i64 b))).run Try.prog w = .ok (.bool (!(a == b))) w := by
  simp only [binOp]
  simp [Op.equal, Op.maxDepth, equalIn_err w 9998 a b]
theorem err_nil_eql (w : World) (b : Int) : (binOp .eql 26 .nilIface (.iface 31 (.int .i64 b))).run Try.prog w = .ok (.bool false) w := by
  obtain ⟨ms, hi⟩ : ∃ ms, Try.prog.underlying 26 = some (.interface ms) := ⟨Try.prog.methodsAt 26, by kernel_rfl⟩
  have h : ∀ d : Nat, (Op.equalIn (d + 1) 26 .nilIface (.iface 31 (.int .i64 b))).run Try.prog w = .ok false w := fun d => by simp [Op.equalIn, run_underlying hi]
  simp only [binOp]
  simp [Op.equal, Op.maxDepth, h 9999]
theorem err_nil_neq (w : World) (b : Int) : (binOp .neq 26 .nilIface (.iface 31 (.int .i64 b))).run Try.prog w = .ok (.bool true) w := by
  obtain ⟨ms, hi⟩ : ∃ ms, Try.prog.underlying 26 = some (.interface ms) := ⟨Try.prog.methodsAt 26, by kernel_rfl⟩
  have h : ∀ d : Nat, (Op.equalIn (d + 1) 26 .nilIface (.iface 31 (.int .i64 b))).run Try.prog w = .ok false w := fun d => by simp [Op.equalIn, run_underlying hi]
  simp only [binOp]
  simp [Op.equal, Op.maxDepth, h 9999]
end

theorem info3 : (Try.prog.info? 3).map (fun i => (i.zero, i.size, i.bytes)) = some (some (.int .i64 0), 1, 8) := by kernel_rfl
theorem info5 : (Try.prog.info? 5).map (fun i => (i.zero, i.size, i.bytes)) = some (some (.int .u8 0), 1, 1) := by kernel_rfl
-- the values' own types

end Go.Proofs.Ytmpdlkjchhajjaa.RLebPuts
