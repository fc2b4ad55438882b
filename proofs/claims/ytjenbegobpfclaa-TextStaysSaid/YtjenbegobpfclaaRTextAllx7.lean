-- Made by the program wip/patchprint.py (this session's own, over the kit's print)
import Derived.Test.YtjenbegobpfclaaRTextAllx0
namespace Go.Proofs.Ytjenbegobpfclaa.RTextAll
open Go.RowKit Go.Proofs.Ytjenbegobpfclaa.Man Go.Proofs.YtjenbegobpfclaaW.PrintWords Go.Proofs.YtjenbegobpfclaaW.PrintLast Go.Proofs.YtjenbegobpfclaaW.PrintMore
attribute [local go_sem] max2_int min2_int max_two min_two max_three min_three max_four min_four   -- for this text's walks alone
set_option linter.unusedVariables false
set_option linter.unusedSimpArgs false
set_option linter.unnecessarySimpa false

attribute [local go_sem] err_eql err_neq err_nil_eql err_nil_neq
attribute [local simp] shl_zero
/-! ### grommetlaw00_Code: function 11 -/
/-- The number of an error that is a Code of 1 to 9; 0: none; -1: another. (By hand.) -/
def codeOf : Option Int → Int
  | none => 0
  | some c => if 1 ≤ c ∧ c ≤ 9 then c else -1
def grommetlaw00_Code.f (k : Nat) (a0 : Option Int) : Option (Int) := some (codeOf a0)
theorem grommetlaw00_Code.mono : ∀ a0 k, LeO (grommetlaw00_Code.f k a0) (grommetlaw00_Code.f (k + 1) a0) := fun _ _ => LeO.refl _
theorem grommetlaw00_Code.calls (k : Nat) (a0 : Option Int) (r : Int) (w : World) (h : grommetlaw00_Code.f k a0 = some r) :
    Calls Try.prog 11 #[errW a0] w fun e w' => e = .returned (.int .i64 r) ∧ Drawn0 w w' := by
  have hu25 := Try.underlying25
  obtain rfl := Option.some.inj h
  clear h
  cases a0 with
  | none =>
    rw [errW_none]
    have e0 : codeOf none = 0 := rfl
    rw [e0]
    go_enter Try.func11, Try.ntmps11
    go_wp2
    go_ret
    exact ⟨rfl, Drawn0.refl _⟩
  | some c =>
    rw [errW_some]
    have HC := Aside0.mk (show codeOf (some c) = if 1 ≤ c ∧ c ≤ 9 then c else -1 from rfl)
    obtain ⟨r, hr⟩ : ∃ r, codeOf (some c) = r := ⟨_, rfl⟩
    rw [hr] at HC ⊢
    clear hr
    go_enter Try.func11, Try.ntmps11
    go_wp2
    go_loopg [3] 11 (fun kq v3 w' => ∃ j : Int, v3 = .int .i64 j ∧ 1 ≤ j ∧ j ≤ 10 ∧ j + kq = 12 ∧ (c < 1 ∨ j ≤ c) ∧ w' = w)
    case atStart => exact ⟨1, rfl, by omega, by omega, by omega, by omega, rfl⟩
    case round =>
      obtain ⟨j, rfl, j1, j10, jk, jc, rfl⟩ := hrel
      cases gk with
      | zero => exact absurd jk (by omega)
      | succ k2 =>
        by_cases h9 : j ≤ 9
        · have l2 : decide (j ≤ 9) = true := decide_eq_true h9
          by_cases e : c = j
          · subst e
            have b1 : (c == c) = true := beq_iff_eq.mpr rfl
            have HR := Aside0.mk (show r = c by rw [HC.out, if_pos ⟨by omega, h9⟩])
            clear j1 j10 jk jc
            go_wp2
            go_ret
            exact ⟨by rw [HR.out]; rfl, Drawn0.refl _⟩
          · have b1 : (c == j) = false := beq_eq_false_iff_ne.mpr e
            have e3 : IntKind.i64.wrap (j + 1) = j + 1 := by rw [IntKind.wrap_i64]; omega
            have Q := Aside0.mk (show 1 ≤ j + 1 ∧ j + 1 ≤ 10 ∧ j + 1 + (k2 : Int) = 12 ∧ (c < 1 ∨ j + 1 ≤ c) by omega)
            clear j1 j10 jk jc
            go_wp2
            go_roundg k2
            case measure => omega
            case rel => exact ⟨j + 1, by first | rfl | (rw [← e3]; rfl), Q.out.1, Q.out.2.1, Q.out.2.2.1, Q.out.2.2.2, rfl⟩
        · have l2 : decide (j ≤ 9) = false := decide_eq_false h9
          have HR := Aside0.mk (show r = -1 by rw [HC.out, if_neg (by omega)])
          clear j1 j10 jk jc
          go_wp2
          go_ret
          exact ⟨by rw [HR.out]; rfl, Drawn0.refl _⟩
end Go.Proofs.Ytjenbegobpfclaa.RTextAll
