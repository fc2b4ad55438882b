-- Made by the program wip/patchprint.py (this session's own, over the kit's print)
import Derived.Test.YtibeoejnfpbcfaaDoorProg
import Derived.Below
import Derived.Deep.Draws
import Derived.Deep.AppendLies
import Derived.Maps.AppendAt
import Derived.OwnWalk
import Derived.Laws.BytesArg
import Derived.Laws.MakeOwn
import Derived.Laws.OwnMore
import Derived.Deep.OwnRows
import Derived.Tactics
import Derived.Lib.ConvBytes
import Derived.Laws.Slices
import Derived.WalkKit
import Derived.KernelRfl
import Derived.RowKit3
import Derived.Deep.LoopGhost
import Derived.Deep.QuietTactic
import Derived.BigQuiet
import Derived.WideLaws
import Derived.Deep.DeepCutAuto
import Derived.Deep.CutBlock
import Derived.Deep.RegionHeld3
import Derived.Laws.Rows
import Derived.Lib.AppendStr
import Derived.ArgAppend
import Derived.Laws.IdiomCopy
import Derived.OrdersHeld
import Derived.Laws.BitsLemmas
import Derived.RowKit
import Derived.Test.YtibeoejnfpbcfaaDoorWWords
import Derived.Test.YtibeoejnfpbcfaaDoorWLast
import Derived.Test.YtibeoejnfpbcfaaDoorWTab
import Derived.Test.YtibeoejnfpbcfaaDoorWFour
import Derived.Test.YtibeoejnfpbcfaaDoorWQPut
import Derived.Test.YtibeoejnfpbcfaaDoorWApart
import Derived.Test.YtibeoejnfpbcfaaDoorWArr
import Derived.Test.YtibeoejnfpbcfaaDoorWZeros
import Derived.Test.YtibeoejnfpbcfaaDoorWFoot
import Derived.Test.YtibeoejnfpbcfaaDoorWKept
import Derived.Test.YtibeoejnfpbcfaaDoorWShare
import Derived.Test.YtibeoejnfpbcfaaDoorWN
import Derived.Test.YtibeoejnfpbcfaaDoorWFootNe
import Derived.Test.YtibeoejnfpbcfaaDoorWAt
import Derived.Test.YtibeoejnfpbcfaaDoorWEqStruct
import Derived.Test.YtibeoejnfpbcfaaDoorWRepsOne
import Derived.Test.YtibeoejnfpbcfaaDoorWInv
import Derived.Test.YtibeoejnfpbcfaaDoorWInvWords
import Derived.Test.YtibeoejnfpbcfaaDoorWGuard
import Derived.Test.YtibeoejnfpbcfaaDoorWNEv
import Derived.Test.YtibeoejnfpbcfaaDoorWMore
namespace Go.Proofs.YtibeoejnfpbcfaaDoor.RSectSplits
open Go.RowKit Go.Proofs.YtibeoejnfpbcfaaDoorW.PrintWords Go.Proofs.YtibeoejnfpbcfaaDoorW.PrintLast Go.Proofs.YtibeoejnfpbcfaaDoorW.PrintMore
attribute [local go_sem] max2_int min2_int max_two min_two max_three min_three max_four min_four   -- for this text's walks alone
set_option linter.unusedVariables false
set_option linter.unusedSimpArgs false
set_option linter.unnecessarySimpa false



def errW : Option Int → Value
  | none => .nilIface
  | some c => .iface 41 (.int .i64 c)
theorem errW_none : errW none = .nilIface := rfl
theorem errW_some (c : Int) : errW (some c) = .iface 41 (.int .i64 c) := rfl

section
open Go
theorem equalIn_err (w : World) (d : Nat) (a b : Int) : (Op.equalIn (d + 2) 26 (.iface 41 (.int .i64 a)) (.iface 41 (.int .i64 b))).run Tryd.prog w = .ok (a == b) w := by
  obtain ⟨ms, hi⟩ : ∃ ms, Tryd.prog.underlying 26 = some (.interface ms) := ⟨Tryd.prog.methodsAt 26, by kernel_rfl⟩
  have hn : Tryd.prog.underlying 41 = some (.int .i64) := by kernel_rfl
  obtain ⟨i, hinfo, hcomp⟩ : ∃ i, Tryd.prog.info? 41 = some i ∧ i.comparable = true := by
    have h : (Tryd.prog.info? 41).map (·.comparable) = some true := by kernel_rfl
    cases hq : Tryd.prog.info? 41 with
    | none => rw [hq] at h; cases h
    | some i => rw [hq] at h; exact ⟨i, rfl, Option.some.inj h⟩
  simp [Op.equalIn, run_underlying hi, run_underlying hn, typeInfo, hinfo, hcomp]
theorem err_eql (w : World) (a b : Int) : (binOp .eql 26 (.iface 41 (.int .i64 a)) (.iface 41 (.int .i64 b))).run Tryd.prog w = .ok (.bool (a == b)) w := by
  simp only [binOp]
  simp [Op.equal, Op.maxDepth, equalIn_err w 9998 a b]
theorem err_neq (w : World) (a b : Int) : (binOp .neq 26 (.iface 41 (.int .i64 a)) (.iface 41 (.int .i64 b))).run Tryd.prog w = .ok (.bool (!(a == b))) w := by
  simp only [binOp]
  simp [Op.equal, Op.maxDepth, equalIn_err w 9998 a b]
theorem err_nil_eql (w : World) (b : Int) : (binOp .eql 26 .nilIface (.iface 41 (.int .i64 b))).run Tryd.prog w = .ok (.bool false) w := by
  obtain ⟨ms, hi⟩ : ∃ ms, Tryd.prog.underlying 26 = some (.interface ms) := ⟨Tryd.prog.methodsAt 26, by kernel_rfl⟩
  have h : ∀ d : Nat, (Op.equalIn (d + 1) 26 .nilIface (.iface 41 (.int .i64 b))).run Tryd.prog w = .ok false w := fun d => by simp [Op.equalIn, run_underlying hi]
  simp only [binOp]
  simp [Op.equal, Op.maxDepth, h 9999]
theorem err_nil_neq (w : World) (b : Int) : (binOp .neq 26 .nilIface (.iface 41 (.int .i64 b))).run Tryd.prog w = .ok (.bool true) w := by
  obtain ⟨ms, hi⟩ : ∃ ms, Tryd.prog.underlying 26 = some (.interface ms) := ⟨Tryd.prog.methodsAt 26, by kernel_rfl⟩
  have h : ∀ d : Nat, (Op.equalIn (d + 1) 26 .nilIface (.iface 41 (.int .i64 b))).run Tryd.prog w = .ok false w := fun d => by simp [Op.equalIn, run_underlying hi]
  simp only [binOp]
  simp [Op.equal, Op.maxDepth, h 9999]
end

theorem shl_zero (k : IntKind) (y : Int) : shl k 0 y = 0 := by
  unfold shl
  rw [Int.zero_mul]
  cases k <;> rfl
theorem info3 : (Tryd.prog.info? 3).map (fun i => (i.zero, i.size, i.bytes)) = some (some (.int .i64 0), 1, 8) := by kernel_rfl
theorem info5 : (Tryd.prog.info? 5).map (fun i => (i.zero, i.size, i.bytes)) = some (some (.int .u8 0), 1, 1) := by kernel_rfl
theorem info34 : (Tryd.prog.info? 34).map (fun i => (i.zero, i.size, i.bytes)) = some (some (.agg #[(.int .i64 0), (.int .i64 0), (.slice none 0 0)]), 3, 40) := by kernel_rfl
-- the values' own types
def rd_L2 (xs : List (List Int)) (i : Int) : (List Int) := xs.getD i.toNat ([] : List Int)
theorem at_L2 {w : World} {A : Option Addr} {n : Nat} {xs : List (List Int)} (h : Kd.C (Kd.slice 5 (Kd.int .u8)) w A n xs) (i : Int) (h0 : 0 ≤ i) (h1 : i < n) : ∃ ad A0 c0, A = some ad ∧ w.cell? (ad.add i.toNat) = some (.slice A0 (rd_L2 xs i).length c0) ∧ (rd_L2 xs i).length ≤ c0 ∧ (Kd.int .u8).C w A0 (rd_L2 xs i).length (rd_L2 xs i) := by
  obtain ⟨ad, c, e, _, hK, hc0⟩ := Kd.C_get h ([] : List Int) i h0 h1
  have hc : ∀ j u, c[j]? = some u → w.cell? (ad.add (i.toNat * 1 + j)) = some u := hc0
  obtain ⟨A0, c0, rfl, l0, g0⟩ := hK
  exact ⟨ad, A0, c0, e, by have hq := hc 0 _ rfl; rwa [Nat.mul_one, Nat.add_zero] at hq, l0, g0⟩

/-! #### struct type 34 -/
structure S34 where
  f0 : Int
  f1 : Int
  f2 : (List Int)
def z34 : S34 := ⟨(0 : Int), (0 : Int), ([] : List Int)⟩
def k34 : Kd S34 := Kd.iso (Kd.pair (Kd.int .i64) (Kd.pair (Kd.int .i64) (Kd.slice 5 (Kd.int .u8)))) (fun x : S34 => (x.f0, x.f1, x.f2))
theorem k34_open {w : World} {x : S34} {cs : List Value} (h : k34.K w x cs) : ∃ A2 c2, cs = [.int .i64 x.f0, .int .i64 x.f1, .slice A2 x.f2.length c2] ∧ x.f2.length ≤ c2 ∧ (Kd.int .u8).C w A2 x.f2.length x.f2 := by
  obtain ⟨_, _, rfl, rfl, ⟨_, _, rfl, rfl, ⟨A2, c2, rfl, l2, g2⟩⟩⟩ := h
  exact ⟨A2, c2, rfl, l2, g2⟩
theorem k34_openM {w : World} {base : Nat} {ok : Nat → Prop} {x : S34} {cs : List Value} (h : k34.M w base ok x cs) : ∃ v2, cs = [.int .i64 x.f0, .int .i64 x.f1, v2] ∧ (Kd.int .u8).R 5 w base ok v2 x.f2 := by
  obtain ⟨_, _, rfl, rfl, ⟨_, _, rfl, rfl, ⟨v2, rfl, g2⟩⟩⟩ := h
  exact ⟨v2, rfl, g2⟩
theorem k34_mk (w : World) (x : S34) {A2 : Option Addr} {c2 : Nat} (l2 : x.f2.length ≤ c2) (g2 : (Kd.int .u8).C w A2 x.f2.length x.f2) : k34.K w x [.int .i64 x.f0, .int .i64 x.f1, .slice A2 x.f2.length c2] := ⟨[.int .i64 x.f0], [.int .i64 x.f1, .slice A2 x.f2.length c2], rfl, rfl, ⟨[.int .i64 x.f1], [.slice A2 x.f2.length c2], rfl, rfl, ⟨A2, c2, rfl, l2, g2⟩⟩⟩
theorem k34_mkM (w : World) (base : Nat) (ok : Nat → Prop) (x : S34) {v2 : Value} (g2 : (Kd.int .u8).R 5 w base ok v2 x.f2) : k34.M w base ok x [.int .i64 x.f0, .int .i64 x.f1, v2] := ⟨[.int .i64 x.f0], [.int .i64 x.f1, v2], rfl, rfl, ⟨[.int .i64 x.f1], [v2], rfl, rfl, ⟨v2, rfl, g2⟩⟩⟩
def rd_T34 (xs : List S34) (i : Int) : S34 := xs.getD i.toNat z34
theorem at_T34 {w : World} {A : Option Addr} {n : Nat} {xs : List S34} (h : Kd.C k34 w A n xs) (i : Int) (h0 : 0 ≤ i) (h1 : i < n) : ∃ ad A2 c2, A = some ad ∧ w.cell? (ad.add (i.toNat * 3)) = some (.int .i64 (rd_T34 xs i).f0) ∧ w.cell? ⟨(ad.add (i.toNat * 3)).block, (ad.add (i.toNat * 3)).off + 1, none⟩ = some (.int .i64 (rd_T34 xs i).f1) ∧ w.cell? ⟨(ad.add (i.toNat * 3)).block, (ad.add (i.toNat * 3)).off + 2, none⟩ = some (.slice A2 (rd_T34 xs i).f2.length c2) ∧ (rd_T34 xs i).f2.length ≤ c2 ∧ (Kd.int .u8).C w A2 (rd_T34 xs i).f2.length (rd_T34 xs i).f2 := by
  obtain ⟨ad, c, e, _, hK, hc0⟩ := Kd.C_get h z34 i h0 h1
  have hc : ∀ j u, c[j]? = some u → w.cell? (ad.add (i.toNat * 3 + j)) = some u := hc0
  obtain ⟨A2, c2, rfl, l2, g2⟩ := k34_open hK
  exact ⟨ad, A2, c2, e, hc 0 _ rfl, by rw [← add_field _ _ 1 (by omega)]; exact hc 1 _ rfl, by rw [← add_field _ _ 2 (by omega)]; exact hc 2 _ rfl, l2, g2⟩

end Go.Proofs.YtibeoejnfpbcfaaDoor.RSectSplits
