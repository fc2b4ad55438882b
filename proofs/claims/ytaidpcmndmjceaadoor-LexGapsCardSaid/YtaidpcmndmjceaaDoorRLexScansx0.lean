-- Made by the program wip/patchprint.py (this session's own, over the kit's print)
import Derived.Test.YtaidpcmndmjceaaDoorProg
import Derived.Below
import Derived.Deep.Draws
import Derived.Deep.AppendLies
import Derived.Maps.AppendAt
import Derived.OwnWalk
import Derived.Laws.BytesArg
import Derived.Laws.MakeOwn
import Derived.Laws.OwnMore
import Derived.Deep.OwnRows
import Derived.Tactics
import Derived.Lib.ConvBytes
import Derived.Laws.Slices
import Derived.WalkKit
import Derived.KernelRfl
import Derived.RowKit3
import Derived.Deep.LoopGhost
import Derived.Deep.QuietTactic
import Derived.BigQuiet
import Derived.WideLaws
import Derived.Deep.DeepCutAuto
import Derived.Deep.CutBlock
import Derived.Deep.RegionHeld3
import Derived.Laws.Rows
import Derived.Lib.AppendStr
import Derived.ArgAppend
import Derived.Laws.IdiomCopy
import Derived.OrdersHeld
import Derived.Laws.BitsLemmas
import Derived.RowKit
import Derived.Test.YtaidpcmndmjceaaDoorWWords
import Derived.Test.YtaidpcmndmjceaaDoorWLast
import Derived.Test.YtaidpcmndmjceaaDoorWTab
import Derived.Test.YtaidpcmndmjceaaDoorWFour
import Derived.Test.YtaidpcmndmjceaaDoorWQPut
import Derived.Test.YtaidpcmndmjceaaDoorWApart
import Derived.Test.YtaidpcmndmjceaaDoorWArr
import Derived.Test.YtaidpcmndmjceaaDoorWZeros
import Derived.Test.YtaidpcmndmjceaaDoorWFoot
import Derived.Test.YtaidpcmndmjceaaDoorWKept
import Derived.Test.YtaidpcmndmjceaaDoorWShare
import Derived.Test.YtaidpcmndmjceaaDoorWN
import Derived.Test.YtaidpcmndmjceaaDoorWFootNe
import Derived.Test.YtaidpcmndmjceaaDoorWAt
import Derived.Test.YtaidpcmndmjceaaDoorWEqStruct
import Derived.Test.YtaidpcmndmjceaaDoorWRepsOne
import Derived.Test.YtaidpcmndmjceaaDoorWInv
import Derived.Test.YtaidpcmndmjceaaDoorWInvWords
import Derived.Test.YtaidpcmndmjceaaDoorWGuard
import Derived.Test.YtaidpcmndmjceaaDoorWNEv
import Derived.Test.YtaidpcmndmjceaaDoorWMore
import Derived.Test.YtaidpcmndmjceaaDoorMn0
namespace Go.Proofs.YtaidpcmndmjceaaDoor.RLexScans
open Go.RowKit Go.Proofs.YtaidpcmndmjceaaDoor.Man Go.Proofs.YtaidpcmndmjceaaDoorW.PrintWords Go.Proofs.YtaidpcmndmjceaaDoorW.PrintLast Go.Proofs.YtaidpcmndmjceaaDoorW.PrintMore
attribute [local go_sem] max2_int min2_int max_two min_two max_three min_three max_four min_four   -- for this text's walks alone
set_option linter.unusedVariables false
set_option linter.unusedSimpArgs false
set_option linter.unnecessarySimpa false



def errW : Option Int → Value
  | none => .nilIface
  | some c => .iface 42 (.int .i64 c)
theorem errW_none : errW none = .nilIface := rfl
theorem errW_some (c : Int) : errW (some c) = .iface 42 (.int .i64 c) := rfl

section
open Go
theorem equalIn_err (w : World) (d : Nat) (a b : Int) : (Op.equalIn (d + 2) 25 (.iface 42 (.int .i64 a)) (.iface 42 (.int .i64 b))).run Tryd.prog w = .ok (a == b) w := by
  obtain ⟨ms, hi⟩ : ∃ ms, Tryd.prog.underlying 25 = some (.interface ms) := ⟨Tryd.prog.methodsAt 25, by kernel_rfl⟩
  have hn : Tryd.prog.underlying 42 = some (.int .i64) := by kernel_rfl
  obtain ⟨i, hinfo, hcomp⟩ : ∃ i, Tryd.prog.info? 42 = some i ∧ i.comparable = true := by
    have h : (Tryd.prog.info? 42).map (·.comparable) = some true := by kernel_rfl
    cases hq : Tryd.prog.info? 42 with
    | none => rw [hq] at h; cases h
    | some i => rw [hq] at h; exact ⟨i, rfl, Option.some.inj h⟩
  simp [Op.equalIn, run_underlying hi, run_underlying hn, typeInfo, hinfo, hcomp]
theorem err_eql (w : World) (a b : Int) : (binOp .eql 25 (.iface 42 (.int .i64 a)) (.iface 42 (.int .i64 b))).run Tryd.prog w = .ok (.bool (a == b)) w := by
  simp only [binOp]
  simp [Op.equal, Op.maxDepth, equalIn_err w 9998 a b]
theorem err_neq (w : World) (a b : Int) : (binOp .neq 25 (.iface 42 (.int .i64 a)) (.iface 42 (.int .i64 b))).run Tryd.prog w = .ok (.bool (!(a == b))) w := by
  simp only [binOp]
  simp [Op.equal, Op.maxDepth, equalIn_err w 9998 a b]
theorem err_nil_eql (w : World) (b : Int) : (binOp .eql 25 .nilIface (.iface 42 (.int .i64 b))).run Tryd.prog w = .ok (.bool false) w := by
  obtain ⟨ms, hi⟩ : ∃ ms, Tryd.prog.underlying 25 = some (.interface ms) := ⟨Tryd.prog.methodsAt 25, by kernel_rfl⟩
  have h : ∀ d : Nat, (Op.equalIn (d + 1) 25 .nilIface (.iface 42 (.int .i64 b))).run Tryd.prog w = .ok false w := fun d => by simp [Op.equalIn, run_underlying hi]
  simp only [binOp]
  simp [Op.equal, Op.maxDepth, h 9999]
theorem err_nil_neq (w : World) (b : Int) : (binOp .neq 25 .nilIface (.iface 42 (.int .i64 b))).run Tryd.prog w = .ok (.bool true) w := by
  obtain ⟨ms, hi⟩ : ∃ ms, Tryd.prog.underlying 25 = some (.interface ms) := ⟨Tryd.prog.methodsAt 25, by kernel_rfl⟩
  have h : ∀ d : Nat, (Op.equalIn (d + 1) 25 .nilIface (.iface 42 (.int .i64 b))).run Tryd.prog w = .ok false w := fun d => by simp [Op.equalIn, run_underlying hi]
  simp only [binOp]
  simp [Op.equal, Op.maxDepth, h 9999]
end

theorem shl_zero (k : IntKind) (y : Int) : shl k 0 y = 0 := by
  unfold shl
  rw [Int.zero_mul]
  cases k <;> rfl
theorem info36 : (Tryd.prog.info? 36).map (fun i => (i.zero, i.size, i.bytes)) = some (some (.agg #[(.int .i64 0), (.int .i64 0), (.string ⟨#[]⟩)]), 3, 32) := by kernel_rfl
-- the values' own types
/-! #### struct type 36 -/
structure S36 where
  f0 : Int
  f1 : Int
  f2 : ByteArray
def z36 : S36 := ⟨(0 : Int), (0 : Int), (⟨#[]⟩ : ByteArray)⟩
def k36 : Kd S36 := Kd.iso (Kd.pair (Kd.int .i64) (Kd.pair (Kd.int .i64) Kd.string)) (fun x : S36 => (x.f0, x.f1, x.f2))
theorem k36_open {w : World} {x : S36} {cs : List Value} (h : k36.K w x cs) : cs = [.int .i64 x.f0, .int .i64 x.f1, .string x.f2] := by
  obtain ⟨_, _, rfl, rfl, ⟨_, _, rfl, rfl, rfl⟩⟩ := h
  exact rfl
theorem k36_openM {w : World} {base : Nat} {ok : Nat → Prop} {x : S36} {cs : List Value} (h : k36.M w base ok x cs) : cs = [.int .i64 x.f0, .int .i64 x.f1, .string x.f2] := by
  obtain ⟨_, _, rfl, rfl, ⟨_, _, rfl, rfl, rfl⟩⟩ := h
  exact rfl
theorem k36_mk (w : World) (x : S36)  : k36.K w x [.int .i64 x.f0, .int .i64 x.f1, .string x.f2] := ⟨[.int .i64 x.f0], [.int .i64 x.f1, .string x.f2], rfl, rfl, ⟨[.int .i64 x.f1], [.string x.f2], rfl, rfl, rfl⟩⟩
theorem k36_mkM (w : World) (base : Nat) (ok : Nat → Prop) (x : S36)  : k36.M w base ok x [.int .i64 x.f0, .int .i64 x.f1, .string x.f2] := ⟨[.int .i64 x.f0], [.int .i64 x.f1, .string x.f2], rfl, rfl, ⟨[.int .i64 x.f1], [.string x.f2], rfl, rfl, rfl⟩⟩
def rd_T36 (xs : List S36) (i : Int) : S36 := xs.getD i.toNat z36
theorem at_T36 {w : World} {A : Option Addr} {n : Nat} {xs : List S36} (h : Kd.C k36 w A n xs) (i : Int) (h0 : 0 ≤ i) (h1 : i < n) : ∃ ad , A = some ad ∧ w.cell? (ad.add (i.toNat * 3)) = some (.int .i64 (rd_T36 xs i).f0) ∧ w.cell? ⟨(ad.add (i.toNat * 3)).block, (ad.add (i.toNat * 3)).off + 1, none⟩ = some (.int .i64 (rd_T36 xs i).f1) ∧ w.cell? ⟨(ad.add (i.toNat * 3)).block, (ad.add (i.toNat * 3)).off + 2, none⟩ = some (.string (rd_T36 xs i).f2) := by
  obtain ⟨ad, c, e, _, hK, hc0⟩ := Kd.C_get h z36 i h0 h1
  have hc : ∀ j u, c[j]? = some u → w.cell? (ad.add (i.toNat * 3 + j)) = some u := hc0
  obtain rfl := k36_open hK
  exact ⟨ad, e, hc 0 _ rfl, by rw [← add_field _ _ 1 (by omega)]; exact hc 1 _ rfl, by rw [← add_field _ _ 2 (by omega)]; exact hc 2 _ rfl⟩

end Go.Proofs.YtaidpcmndmjceaaDoor.RLexScans
