-- Made by the program wip/patchprint.py (this session's own, over the kit's print)
import Derived.Test.YtjenbegobpfclaaProg
import Derived.Below
import Derived.Deep.Draws
import Derived.Deep.AppendLies
import Derived.Maps.AppendAt
import Derived.OwnWalk
import Derived.Laws.BytesArg
import Derived.Laws.MakeOwn
import Derived.Laws.OwnMore
import Derived.Deep.OwnRows
import Derived.Tactics
import Derived.Lib.ConvBytes
import Derived.Laws.Slices
import Derived.WalkKit
import Derived.KernelRfl
import Derived.RowKit3
import Derived.Deep.LoopGhost
import Derived.Deep.QuietTactic
import Derived.BigQuiet
import Derived.WideLaws
import Derived.Deep.DeepCutAuto
import Derived.Deep.CutBlock
import Derived.Deep.RegionHeld3
import Derived.Laws.Rows
import Derived.Lib.AppendStr
import Derived.ArgAppend
import Derived.Laws.IdiomCopy
import Derived.OrdersHeld
import Derived.Laws.BitsLemmas
import Derived.RowKit
import Derived.Test.YtjenbegobpfclaaWWords
import Derived.Test.YtjenbegobpfclaaWLast
import Derived.Test.YtjenbegobpfclaaWTab
import Derived.Test.YtjenbegobpfclaaWFour
import Derived.Test.YtjenbegobpfclaaWQPut
import Derived.Test.YtjenbegobpfclaaWApart
import Derived.Test.YtjenbegobpfclaaWArr
import Derived.Test.YtjenbegobpfclaaWZeros
import Derived.Test.YtjenbegobpfclaaWFoot
import Derived.Test.YtjenbegobpfclaaWKept
import Derived.Test.YtjenbegobpfclaaWShare
import Derived.Test.YtjenbegobpfclaaWN
import Derived.Test.YtjenbegobpfclaaWFootNe
import Derived.Test.YtjenbegobpfclaaWAt
import Derived.Test.YtjenbegobpfclaaWEqStruct
import Derived.Test.YtjenbegobpfclaaWRepsOne
import Derived.Test.YtjenbegobpfclaaWInv
import Derived.Test.YtjenbegobpfclaaWInvWords
import Derived.Test.YtjenbegobpfclaaWGuard
import Derived.Test.YtjenbegobpfclaaWNEv
import Derived.Test.YtjenbegobpfclaaWMore
import Derived.Test.YtjenbegobpfclaaMn4
namespace Go.Proofs.Ytjenbegobpfclaa.RTextAll
open Go.RowKit Go.Proofs.Ytjenbegobpfclaa.Man Go.Proofs.YtjenbegobpfclaaW.PrintWords Go.Proofs.YtjenbegobpfclaaW.PrintLast Go.Proofs.YtjenbegobpfclaaW.PrintMore
attribute [local go_sem] max2_int min2_int max_two min_two max_three min_three max_four min_four   -- for this text's walks alone
set_option linter.unusedVariables false
set_option linter.unusedSimpArgs false
set_option linter.unnecessarySimpa false



def errW : Option Int → Value
  | none => .nilIface
  | some c => .iface 28 (.int .i64 c)
theorem errW_none : errW none = .nilIface := rfl
theorem errW_some (c : Int) : errW (some c) = .iface 28 (.int .i64 c) := rfl

section
open Go
theorem equalIn_err (w : World) (d : Nat) (a b : Int) : (Op.equalIn (d + 2) 25 (.iface 28 (.int .i64 a)) (.iface 28 (.int .i64 b))).run Try.prog w = .ok (a == b) w := by
  obtain ⟨ms, hi⟩ : ∃ ms, Try.prog.underlying 25 = some (.interface ms) := ⟨Try.prog.methodsAt 25, by kernel_rfl⟩
  have hn : Try.prog.underlying 28 = some (.int .i64) := by kernel_rfl
  obtain ⟨i, hinfo, hcomp⟩ : ∃ i, Try.prog.info? 28 = some i ∧ i.comparable = true := by
    have h : (Try.prog.info? 28).map (·.comparable) = some true := by kernel_rfl
    cases hq : Try.prog.info? 28 with
    | none => rw [hq] at h; cases h
    | some i => rw [hq] at h; exact ⟨i, rfl, Option.some.inj h⟩
  simp [Op.equalIn, run_underlying hi, run_underlying hn, typeInfo, hinfo, hcomp]
theorem err_eql (w : World) (a b : Int) : (binOp .eql 25 (.iface 28 (.int .i64 a)) (.iface 28 (.int .i64 b))).run Try.prog w = .ok (.bool (a == b)) w := by
  simp only [binOp]
  simp [Op.equal, Op.maxDepth, equalIn_err w 9998 a b]
theorem err_neq (w : World) (a b : Int) : (binOp .neq 25 (.iface 28 (.int .i64 a)) (.iface 28 (.int .i64 b))).run Try.prog w = .ok (.bool (!(a == b))) w := by
  simp only [binOp]
  simp [Op.equal, Op.maxDepth, equalIn_err w 9998 a b]
theorem err_nil_eql (w : World) (b : Int) : (binOp .eql 25 .nilIface (.iface 28 (.int .i64 b))).run Try.prog w = .ok (.bool false) w := by
  obtain ⟨ms, hi⟩ : ∃ ms, Try.prog.underlying 25 = some (.interface ms) := ⟨Try.prog.methodsAt 25, by kernel_rfl⟩
  have h : ∀ d : Nat, (Op.equalIn (d + 1) 25 .nilIface (.iface 28 (.int .i64 b))).run Try.prog w = .ok false w := fun d => by simp [Op.equalIn, run_underlying hi]
  simp only [binOp]
  simp [Op.equal, Op.maxDepth, h 9999]
theorem err_nil_neq (w : World) (b : Int) : (binOp .neq 25 .nilIface (.iface 28 (.int .i64 b))).run Try.prog w = .ok (.bool true) w := by
  obtain ⟨ms, hi⟩ : ∃ ms, Try.prog.underlying 25 = some (.interface ms) := ⟨Try.prog.methodsAt 25, by kernel_rfl⟩
  have h : ∀ d : Nat, (Op.equalIn (d + 1) 25 .nilIface (.iface 28 (.int .i64 b))).run Try.prog w = .ok false w := fun d => by simp [Op.equalIn, run_underlying hi]
  simp only [binOp]
  simp [Op.equal, Op.maxDepth, h 9999]
end

theorem shl_zero (k : IntKind) (y : Int) : shl k 0 y = 0 := by
  unfold shl
  rw [Int.zero_mul]
  cases k <;> rfl
theorem info3 : (Try.prog.info? 3).map (fun i => (i.zero, i.size, i.bytes)) = some (some (.int .i64 0), 1, 8) := by kernel_rfl
theorem info5 : (Try.prog.info? 5).map (fun i => (i.zero, i.size, i.bytes)) = some (some (.int .u8 0), 1, 1) := by kernel_rfl
-- the values' own types

end Go.Proofs.Ytjenbegobpfclaa.RTextAll
