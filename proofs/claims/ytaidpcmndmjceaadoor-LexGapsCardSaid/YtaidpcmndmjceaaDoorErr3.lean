/- errors.As at a *api.Spot, errors.Is of a Spot that holds a Code, and law00's Is and Of over a Spot, by their contracts, whatever the world. -/
import Derived.Test.YtaidpcmndmjceaaDoorErr2
import Derived.WalkKit
import Derived.LaidEql
import Derived.Stop.Asserts
import Derived.RowKitTokens
import Derived.Below
import Derived.BigQuiet
import Derived.Test.YtaidpcmndmjceaaDoorWWords
namespace Go.Proofs.YtaidpcmndmjceaaDoor.Err
open Go.RowKit Go.Extern.Stop Go.Stop Go.Extern Go
set_option linter.unusedVariables false
set_option linter.unusedSimpArgs false
open Go.Proofs.YtaidpcmndmjceaaDoorW.PrintWords

/-- law00's Code of a Code from 1 to 9. -/
theorem code_calls (c : Int) (h1 : 1 ≤ c) (h9 : c ≤ 9) (w : World) : Calls Tryd.prog 19 #[.iface 42 (.int .i64 c)] w fun e w' => e = .returned (.int .i64 c) ∧ w' = w := by
  go_enter Tryd.func19, Tryd.ntmps19
  go_wp2_with fail
  go_loopg [3] 10 (fun kq v3 w' => ∃ j : Int, v3 = .int .i64 j ∧ 1 ≤ j ∧ j ≤ c ∧ j + kq = 11 ∧ w' = w)
  case atStart => exact ⟨1, rfl, by omega, h1, by omega, rfl⟩
  case round =>
    obtain ⟨j, rfl, j1, jc, jk, rfl⟩ := hrel
    cases gk with
    | zero => exact absurd jk (by omega)
    | succ k2 =>
      have l2 : decide (j ≤ 9) = true := decide_eq_true (by omega)
      by_cases e : c = j
      · subst e
        have cq := fun w => code_eql w c c
        have b1 : (c == c) = true := beq_iff_eq.mpr rfl
        simp only [b1] at cq
        clear h1 h9 j1 jc jk b1
        go_wp2_with fail
        go_ret
        exact ⟨rfl, rfl⟩
      · have cq := fun w => code_eql w c j
        have b1 : (c == j) = false := beq_eq_false_iff_ne.mpr e
        simp only [b1] at cq
        have e3 : wrap64 (j + 1) = j + 1 := by unfold wrap64; omega
        go_wp2_with fail
        go_roundg k2
        case measure => omega
        case rel => exact ⟨j + 1, by first | rfl | (rw [e3]), by omega, by omega, by omega, rfl⟩
/-- law00's Of over a Spot that holds a Code: both. -/
theorem law_of (p : Nat) (at_ c : Int) (h1c : 1 ≤ c) (h9 : c ≤ 9) (w : World) (hg : w.cell? ⟨0, 0, none⟩ = some (.iface 72 (.agg #[.pointer (some ⟨2, 25, none⟩)]))) (h0 : w.cell? ⟨p, 0, none⟩ = some (.int .i64 at_)) (h1 : w.cell? ⟨p, 1, none⟩ = some (.iface 42 (.int .i64 c))) :
    Calls Tryd.prog 12 #[.iface 44 (.pointer (some ⟨p, 0, none⟩))] w fun e w' => e = .returned (.tuple #[.int .i64 c, .int .i64 at_]) ∧ Below w.heap.size w w' := by
  have hpl : p < w.heap.size := World.block_lt_of_cell? w ⟨p, 0, none⟩ h0
  have hgl : 0 < w.heap.size := World.block_lt_of_cell? w ⟨0, 0, none⟩ hg
  have bA : Below w.heap.size w (w.alloc (.cells #[.pointer none] 44)) := below_alloc (Below.refl _ _) _
  have hgA : (w.alloc (.cells #[.pointer none] 44)).cell? ⟨0, 0, none⟩ = some (.iface 72 (.agg #[.pointer (some ⟨2, 25, none⟩)])) := (World.cell?_of_block (a := ⟨0, 0, none⟩) (bA.block _ hgl)).trans hg
  have HA := Aside0.mk (as_spot ⟨p, 0, none⟩ ⟨w.heap.size, 0, none⟩ (.pointer none) (w.alloc (.cells #[.pointer none] 44)) hgA (by simp) (by simp))
  have H01 := Aside0.mk (And.intro h0 h1)
  have HB := Aside0.mk bA
  have HC := Aside0.mk (And.intro h1c h9)
  clear hg h0 h1 hgA bA h1c h9
  go_enter Tryd.func12, Tryd.ntmps12
  go_upto_region 5 with (go_at_call 20; (refine HA.out.mono ?_); rintro e w1 ⟨rfl, hs, hb⟩; have bw : Below w.heap.size w w1 := HB.out.trans hb; have k0 := (World.cell?_of_block (a := ⟨p, 0, none⟩) (bw.block _ hpl)).trans H01.out.1; have k1 := (World.cell?_of_block (a := ⟨p, 1, none⟩) (bw.block _ hpl)).trans H01.out.2; have BW := Aside0.mk bw; clear hb bw)
  go_quiet ((go_at_call 19; exact Calls.quiet_of_same (code_calls c HC.out.1 HC.out.2 _)))
  all_goals go_wp2
  all_goals go_ret2
  all_goals exact ⟨rfl, by repeat (first | exact BW.out | apply pw_below_drewN | apply below_drew)⟩
end Go.Proofs.YtaidpcmndmjceaaDoor.Err
