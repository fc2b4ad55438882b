-- Made by the program wip/patchprint.py (this session's own, over the kit's print)
import Derived.Test.YtgplakhkofchiaaDoorProg
import Derived.Below
import Derived.Deep.Draws
import Derived.Deep.AppendLies
import Derived.Maps.AppendAt
import Derived.OwnWalk
import Derived.Laws.BytesArg
import Derived.Laws.MakeOwn
import Derived.Laws.OwnMore
import Derived.Deep.OwnRows
import Derived.Tactics
import Derived.Lib.ConvBytes
import Derived.Laws.Slices
import Derived.WalkKit
import Derived.KernelRfl
import Derived.RowKit3
import Derived.Deep.LoopGhost
import Derived.Deep.QuietTactic
import Derived.BigQuiet
import Derived.WideLaws
import Derived.Deep.DeepCutAuto
import Derived.Deep.CutBlock
import Derived.Deep.RegionHeld3
import Derived.Laws.Rows
import Derived.Lib.AppendStr
import Derived.ArgAppend
import Derived.Laws.IdiomCopy
import Derived.OrdersHeld
import Derived.Laws.BitsLemmas
import Derived.RowKit
import Derived.Test.YtgplakhkofchiaaDoorWWords
import Derived.Test.YtgplakhkofchiaaDoorWLast
import Derived.Test.YtgplakhkofchiaaDoorWTab
import Derived.Test.YtgplakhkofchiaaDoorWFour
import Derived.Test.YtgplakhkofchiaaDoorWQPut
import Derived.Test.YtgplakhkofchiaaDoorWApart
import Derived.Test.YtgplakhkofchiaaDoorWArr
import Derived.Test.YtgplakhkofchiaaDoorWZeros
import Derived.Test.YtgplakhkofchiaaDoorWFoot
import Derived.Test.YtgplakhkofchiaaDoorWKept
import Derived.Test.YtgplakhkofchiaaDoorWShare
import Derived.Test.YtgplakhkofchiaaDoorWN
import Derived.Test.YtgplakhkofchiaaDoorWFootNe
import Derived.Test.YtgplakhkofchiaaDoorWAt
import Derived.Test.YtgplakhkofchiaaDoorWEqStruct
import Derived.Test.YtgplakhkofchiaaDoorWRepsOne
import Derived.Test.YtgplakhkofchiaaDoorWInv
import Derived.Test.YtgplakhkofchiaaDoorWInvWords
import Derived.Test.YtgplakhkofchiaaDoorWGuard
import Derived.Test.YtgplakhkofchiaaDoorWNEv
import Derived.Test.YtgplakhkofchiaaDoorWMore
import Derived.Test.YtgplakhkofchiaaDoorMan
namespace Go.Proofs.YtgplakhkofchiaaDoor.RNumEvals
open Go.RowKit Go.Proofs.YtgplakhkofchiaaDoor.Man Go.Proofs.YtgplakhkofchiaaDoorW.PrintWords Go.Proofs.YtgplakhkofchiaaDoorW.PrintLast Go.Proofs.YtgplakhkofchiaaDoorW.PrintMore
attribute [local go_sem] max2_int min2_int max_two min_two max_three min_three max_four min_four   -- for this text's walks alone
set_option linter.unusedVariables false
set_option linter.unusedSimpArgs false
set_option linter.unnecessarySimpa false



def errW : Option Int → Value
  | none => .nilIface
  | some c => .iface 33 (.int .i64 c)
theorem errW_none : errW none = .nilIface := rfl
theorem errW_some (c : Int) : errW (some c) = .iface 33 (.int .i64 c) := rfl

section
open Go
theorem equalIn_err (w : World) (d : Nat) (a b : Int) : (Op.equalIn (d + 2) 30 (.iface 33 (.int .i64 a)) (.iface 33 (.int .i64 b))).run Tryd.prog w = .ok (a == b) w := by
  obtain ⟨ms, hi⟩ : ∃ ms, Tryd.prog.underlying 30 = some (.interface ms) := ⟨Tryd.prog.methodsAt 30, by kernel_rfl⟩
  have hn : Tryd.prog.underlying 33 = some (.int .i64) := by kernel_rfl
  obtain ⟨i, hinfo, hcomp⟩ : ∃ i, Tryd.prog.info? 33 = some i ∧ i.comparable = true := by
    have h : (Tryd.prog.info? 33).map (·.comparable) = some true := by kernel_rfl
    cases hq : Tryd.prog.info? 33 with
    | none => rw [hq] at h; cases h
    | some i => rw [hq] at h; exact ⟨i, rfl, Option.some.inj h⟩
  simp [Op.equalIn, run_underlying hi, run_underlying hn, typeInfo, hinfo, hcomp]
theorem err_eql (w : World) (a b : Int) : (binOp .eql 30 (.iface 33 (.int .i64 a)) (.iface 33 (.int .i64 b))).run Tryd.prog w = .ok (.bool (a == b)) w := by
  simp only [binOp]
  simp [Op.equal, Op.maxDepth, equalIn_err w 9998 a b]
theorem err_neq (w : World) (a b : Int) : (binOp .neq 30 (.iface 33 (.int .i64 a)) (.iface 33 (.int .i64 b))).run Tryd.prog w = .ok (.bool (!(a == b))) w := by
  simp only [binOp]
  simp [Op.equal, Op.maxDepth, equalIn_err w 9998 a b]
theorem err_nil_eql (w : World) (b : Int) : (binOp .eql 30 .nilIface (.iface 33 (.int .i64 b))).run Tryd.prog w = .ok (.bool false) w := by
  obtain ⟨ms, hi⟩ : ∃ ms, Tryd.prog.underlying 30 = some (.interface ms) := ⟨Tryd.prog.methodsAt 30, by kernel_rfl⟩
  have h : ∀ d : Nat, (Op.equalIn (d + 1) 30 .nilIface (.iface 33 (.int .i64 b))).run Tryd.prog w = .ok false w := fun d => by simp [Op.equalIn, run_underlying hi]
  simp only [binOp]
  simp [Op.equal, Op.maxDepth, h 9999]
theorem err_nil_neq (w : World) (b : Int) : (binOp .neq 30 .nilIface (.iface 33 (.int .i64 b))).run Tryd.prog w = .ok (.bool true) w := by
  obtain ⟨ms, hi⟩ : ∃ ms, Tryd.prog.underlying 30 = some (.interface ms) := ⟨Tryd.prog.methodsAt 30, by kernel_rfl⟩
  have h : ∀ d : Nat, (Op.equalIn (d + 1) 30 .nilIface (.iface 33 (.int .i64 b))).run Tryd.prog w = .ok false w := fun d => by simp [Op.equalIn, run_underlying hi]
  simp only [binOp]
  simp [Op.equal, Op.maxDepth, h 9999]
end

theorem shl_zero (k : IntKind) (y : Int) : shl k 0 y = 0 := by
  unfold shl
  rw [Int.zero_mul]
  cases k <;> rfl
theorem info28 : (Tryd.prog.info? 28).map (fun i => (i.zero, i.size, i.bytes)) = some (some (.int .u64 0), 1, 8) := by kernel_rfl
-- the values' own types

end Go.Proofs.YtgplakhkofchiaaDoor.RNumEvals
