/- errors.As at a *api.Spot, errors.Is of a Spot that holds a Code, and law00's Is and Of over a Spot, by their contracts, whatever the world. -/
import Derived.Test.YtjenbegobpfclaaDoorErr0
import Derived.WalkKit
import Derived.LaidEql
import Derived.Stop.Asserts
import Derived.RowKitTokens
import Derived.Below
import Derived.BigQuiet
import Derived.Test.YtjenbegobpfclaaDoorWWords
namespace Go.Proofs.YtjenbegobpfclaaDoor.Err
open Go.RowKit Go.Extern.Stop Go.Stop Go.Extern Go
set_option linter.unusedVariables false
set_option linter.unusedSimpArgs false

theorem equalIn_err (w : World) (d : Nat) (a b : Int) : (Op.equalIn (d + 1 + 1) 25 (.iface 31 (.int .i64 a)) (.iface 31 (.int .i64 b))).run Tryd.prog w = .ok (a == b) w := by
  have hi := Tryd.underlying25
  have hn := Tryd.underlying31
  obtain ⟨i, hinfo, hcomp⟩ : ∃ i, Tryd.prog.info? 31 = some i ∧ i.comparable = true := by
    have h : (Tryd.prog.info? 31).map (·.comparable) = some true := by kernel_rfl
    cases hq : Tryd.prog.info? 31 with
    | none => rw [hq] at h; cases h
    | some i => rw [hq] at h; exact ⟨i, rfl, Option.some.inj h⟩
  simp [Op.equalIn, run_underlying hi, run_underlying hn, typeInfo, hinfo, hcomp]
theorem code_eql (w : World) (a b : Int) : (binOp .eql 25 (.iface 31 (.int .i64 a)) (.iface 31 (.int .i64 b))).run Tryd.prog w = .ok (.bool (a == b)) w := by
  simp only [binOp]
  simp [Op.equal, Op.maxDepth, equalIn_err w 9998 a b]
theorem isTypeOf (v : Value) (w : World) : (ReflectliteType.typeOf #[.iface 31 v]).run Tryd.prog w = .ok (.iface 78 (.agg #[.pointer (some ⟨2, 31, none⟩)])) w := by kernel_rfl
def cmpE : Array Value → Sem Value := ReflectliteType.method fun t => do Rtype.noPackHeld "Comparable" t; pure (.bool (← typeInfo t).comparable)
theorem isComparable (w : World) : (cmpE #[.agg #[.pointer (some ⟨2, 31, none⟩)]]).run Tryd.prog w = .ok (.bool true) w := by kernel_rfl
theorem isMethodComparable (v : Value) (w : World) : (Go.method 233 78 v "Comparable").run Tryd.prog w = .ok (79, v) w := by kernel_rfl
theorem noIsS (v : Value) (xT : TypeId) (w : World) : (Instr.typeAssert (.iface 36 v) xT 90 true).run Tryd.prog w = .ok (.tuple #[.nilIface, .bool false]) w := run_typeAssert_lacksB Tryd.underlying90 (by kernel_rfl) (by kernel_rfl) v xT w
theorem hasUnwrapS (v : Value) (xT : TypeId) (w : World) : (Instr.typeAssert (.iface 36 v) xT 85 true).run Tryd.prog w = .ok (.tuple #[.iface 36 v, .bool true]) w := run_typeAssert_hasB Tryd.underlying85 (by kernel_rfl) v xT w
theorem methodUnwrap (v : Value) (w : World) : (Go.method 233 36 v "Unwrap").run Tryd.prog w = .ok (73, v) w := by kernel_rfl
set_option maxHeartbeats 4000000 in
/-- errors.Is(a Spot that holds the Code c, c). -/
theorem is_spot (p : Nat) (c : Int) (w : World) (h1 : w.cell? ⟨p, 1, none⟩ = some (.iface 31 (.int .i64 c))) :
    Calls Tryd.prog 12 #[.iface 36 (.pointer (some ⟨p, 0, none⟩)), .iface 31 (.int .i64 c)] w fun e w' => e = .returned (.bool true) ∧ w' = w := by
  have h8 := @run_callFunc_extern Tryd.prog 29 _ ReflectliteType.typeOf Tryd.func29 (by kernel_rfl) (by kernel_rfl) (by kernel_rfl) (by kernel_rfl)
  have h32 := @run_callFunc_extern Tryd.prog 79 _ cmpE Tryd.func79 (by kernel_rfl) (by kernel_rfl) (by kernel_rfl) (by kernel_rfl)
  have tT := isTypeOf
  have cT := isComparable
  have mR := isMethodComparable
  have nE := noIsS
  have uW := hasUnwrapS
  have mU := methodUnwrap
  have heq := code_eql w c c
  have hcc : (c == c) = true := by simp
  rw [hcc] at heq
  have hty := run_eql_iface_types (P := Tryd.prog) 36 31 (.pointer (some ⟨p, 0, none⟩)) (.int .i64 c) Tryd.underlying25 (by decide) w
  go_enter Tryd.func12, Tryd.ntmps12
  go_wp2
  refine wp_loop_rounds 2 ?_
  rw [rounds_succ]
  go_wp2
  rw [rounds_succ]
  go_wp2
  go_ret
  exact ⟨rfl, rfl⟩
end Go.Proofs.YtjenbegobpfclaaDoor.Err
