-- Made by the program wip/patchprint.py (this session's own, over the kit's print)
import Derived.Test.YtagaihiemomelaaDoorProg
import Derived.Below
import Derived.Deep.Draws
import Derived.Deep.AppendLies
import Derived.Maps.AppendAt
import Derived.OwnWalk
import Derived.Laws.BytesArg
import Derived.Laws.MakeOwn
import Derived.Laws.OwnMore
import Derived.Deep.OwnRows
import Derived.Tactics
import Derived.Lib.ConvBytes
import Derived.Laws.Slices
import Derived.WalkKit
import Derived.KernelRfl
import Derived.RowKit3
import Derived.Deep.LoopGhost
import Derived.Deep.QuietTactic
import Derived.BigQuiet
import Derived.WideLaws
import Derived.Deep.DeepCutAuto
import Derived.Deep.CutBlock
import Derived.Deep.RegionHeld3
import Derived.Laws.Rows
import Derived.Lib.AppendStr
import Derived.ArgAppend
import Derived.Laws.IdiomCopy
import Derived.OrdersHeld
import Derived.Laws.BitsLemmas
import Derived.RowKit
import Derived.Test.YtagaihiemomelaaDoorWWords
import Derived.Test.YtagaihiemomelaaDoorWLast
import Derived.Test.YtagaihiemomelaaDoorWTab
import Derived.Test.YtagaihiemomelaaDoorWFour
import Derived.Test.YtagaihiemomelaaDoorWQPut
import Derived.Test.YtagaihiemomelaaDoorWApart
import Derived.Test.YtagaihiemomelaaDoorWArr
import Derived.Test.YtagaihiemomelaaDoorWZeros
import Derived.Test.YtagaihiemomelaaDoorWFoot
import Derived.Test.YtagaihiemomelaaDoorWKept
import Derived.Test.YtagaihiemomelaaDoorWShare
import Derived.Test.YtagaihiemomelaaDoorWN
import Derived.Test.YtagaihiemomelaaDoorWFootNe
import Derived.Test.YtagaihiemomelaaDoorWAt
import Derived.Test.YtagaihiemomelaaDoorWEqStruct
import Derived.Test.YtagaihiemomelaaDoorWRepsOne
import Derived.Test.YtagaihiemomelaaDoorWInv
import Derived.Test.YtagaihiemomelaaDoorWInvWords
import Derived.Test.YtagaihiemomelaaDoorWGuard
import Derived.Test.YtagaihiemomelaaDoorWNEv
import Derived.Test.YtagaihiemomelaaDoorWMore
import Derived.Test.YtagaihiemomelaaDoorMan
namespace Go.Proofs.YtagaihiemomelaaDoor.RNamePuts
open Go.RowKit Go.Proofs.YtagaihiemomelaaDoor.Man Go.Proofs.YtagaihiemomelaaDoorW.PrintWords Go.Proofs.YtagaihiemomelaaDoorW.PrintLast Go.Proofs.YtagaihiemomelaaDoorW.PrintMore
attribute [local go_sem] max2_int min2_int max_two min_two max_three min_three max_four min_four   -- for this text's walks alone
set_option linter.unusedVariables false
set_option linter.unusedSimpArgs false
set_option linter.unnecessarySimpa false



def errW : Option Int → Value
  | none => .nilIface
  | some c => .iface 33 (.int .i64 c)
theorem errW_none : errW none = .nilIface := rfl
theorem errW_some (c : Int) : errW (some c) = .iface 33 (.int .i64 c) := rfl

section
open Go
theorem equalIn_err (w : World) (d : Nat) (a b : Int) : (Op.equalIn (d + 2) 26 (.iface 33 (.int .i64 a)) (.iface 33 (.int .i64 b))).run Tryd.prog w = .ok (a == b) w := by
  obtain ⟨ms, hi⟩ : ∃ ms, Tryd.prog.underlying 26 = some (.interface ms) := ⟨Tryd.prog.methodsAt 26, by kernel_rfl⟩
  have hn : Tryd.prog.underlying 33 = some (.int .i64) := by kernel_rfl
  obtain ⟨i, hinfo, hcomp⟩ : ∃ i, Tryd.prog.info? 33 = some i ∧ i.comparable = true := by
    have h : (Tryd.prog.info? 33).map (·.comparable) = some true := by kernel_rfl
    cases hq : Tryd.prog.info? 33 with
    | none => rw [hq] at h; cases h
    | some i => rw [hq] at h; exact ⟨i, rfl, Option.some.inj h⟩
  simp [Op.equalIn, run_underlying hi, run_underlying hn, typeInfo, hinfo, hcomp]
theorem err_eql (w : World) (a b : Int) : (binOp .eql 26 (.iface 33 (.int .i64 a)) (.iface 33 (.int .i64 b))).run Tryd.prog w = .ok (.bool (a == b)) w := by
  simp only [binOp]
  simp [Op.equal, Op.maxDepth, equalIn_err w 9998 a b]
theorem err_neq (w : World) (a b : Int) : (binOp .neq 26 (.iface 33 (.int .i64 a)) (.iface 33 (.int .i64 b))).run Tryd.prog w = .ok (.bool (!(a == b))) w := by
  simp only [binOp]
  simp [Op.equal, Op.maxDepth, equalIn_err w 9998 a b]
theorem err_nil_eql (w : World) (b : Int) : (binOp .eql 26 .nilIface (.iface 33 (.int .i64 b))).run Tryd.prog w = .ok (.bool false) w := by
  obtain ⟨ms, hi⟩ : ∃ ms, Tryd.prog.underlying 26 = some (.interface ms) := ⟨Tryd.prog.methodsAt 26, by kernel_rfl⟩
  have h : ∀ d : Nat, (Op.equalIn (d + 1) 26 .nilIface (.iface 33 (.int .i64 b))).run Tryd.prog w = .ok false w := fun d => by simp [Op.equalIn, run_underlying hi]
  simp only [binOp]
  simp [Op.equal, Op.maxDepth, h 9999]
theorem err_nil_neq (w : World) (b : Int) : (binOp .neq 26 .nilIface (.iface 33 (.int .i64 b))).run Tryd.prog w = .ok (.bool true) w := by
  obtain ⟨ms, hi⟩ : ∃ ms, Tryd.prog.underlying 26 = some (.interface ms) := ⟨Tryd.prog.methodsAt 26, by kernel_rfl⟩
  have h : ∀ d : Nat, (Op.equalIn (d + 1) 26 .nilIface (.iface 33 (.int .i64 b))).run Tryd.prog w = .ok false w := fun d => by simp [Op.equalIn, run_underlying hi]
  simp only [binOp]
  simp [Op.equal, Op.maxDepth, h 9999]
end

theorem shl_zero (k : IntKind) (y : Int) : shl k 0 y = 0 := by
  unfold shl
  rw [Int.zero_mul]
  cases k <;> rfl
theorem info5 : (Tryd.prog.info? 5).map (fun i => (i.zero, i.size, i.bytes)) = some (some (.int .u8 0), 1, 1) := by kernel_rfl
-- the values' own types

end Go.Proofs.YtagaihiemomelaaDoor.RNamePuts
