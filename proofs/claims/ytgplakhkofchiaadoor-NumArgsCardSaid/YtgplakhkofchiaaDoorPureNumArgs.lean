/- How many arguments any operation has is what the document's table says: for every number, without a condition. -/
import Derived.Test.YtgplakhkofchiaaDoorRNumArgsx4
import Derived.OpenShut
set_option linter.unusedVariables false
set_option linter.unusedSimpArgs false
namespace Go.Proofs.YtgplakhkofchiaaDoor.Pure
open Go.RowKit Go.Proofs.YtgplakhkofchiaaDoor.Man Go.Proofs.YtgplakhkofchiaaDoor.RNumArgs Go.Proofs.YtgplakhkofchiaaDoorW.PrintWords Go.Proofs.YtgplakhkofchiaaDoorW.PrintLast

theorem up_args : grommetlaw03_up.f 20 = some true := by decide +kernel
theorem inside : ∀ i : Fin 140, grommetlaw03_NumArgs.f 20 ((60 + i.val : Nat) : Int) = some true := by decide +kernel

theorem row_out (op : Int) (h : op < 60 ∨ 199 < op) : num_row.f 20 op = some (0, 0, 0, false) := by
  have h5 : num_row.j5 15 op false = some (0, 0, 0, false) := by
    simp only [num_row.j5, Bool.false_eq_true, if_false]
    rw [if_neg (by omega), if_neg (by omega), if_neg (by omega)]
  have d : ∀ (a b : Int), 60 ≤ a → b < 199 → (if op ≥ a then decide (op ≤ b) else false) = false := by
    intro a b ha hb
    split
    · simp; omega
    · rfl
  have d' : ∀ (a b : Int), 60 ≤ a → b < 199 → (if op ≥ a then decide (op < b) else false) = false := by
    intro a b ha hb
    split
    · simp; omega
    · rfl
  have push : ∀ {α : Type} (c : Prop) [Decidable c] (f : Bool → α) (x y : Bool), (if c then f x else f y) = f (if c then x else y) := by
    intro α c _ f x y
    split <;> rfl
  unfold num_row.f
  rw [if_neg (by omega), if_neg (by omega), push (op ≥ 70) (num_row.j0 20 op), d' 70 80 (by omega) (by omega)]
  simp only [num_row.j0, Bool.false_eq_true, if_false]
  rw [push (op ≥ 81) (num_row.j1 19 op), d 81 90 (by omega) (by omega)]
  simp only [num_row.j1, Bool.false_eq_true, if_false]
  rw [push (op ≥ 103) (num_row.j2 18 op), d' 103 106 (by omega) (by omega)]
  simp only [num_row.j2, Bool.false_eq_true, if_false]
  rw [push (op ≥ 121) (num_row.j3 17 op), d' 121 124 (by omega) (by omega)]
  simp only [num_row.j3, Bool.false_eq_true, if_false]
  rw [push (op ≥ 106) (num_row.j4 16 op), d' 106 121 (by omega) (by omega)]
  simp only [num_row.j4, Bool.false_eq_true, if_false]
  rw [push (op ≥ 124) (num_row.j5 15 op), d 124 138 (by omega) (by omega), h5]
theorem ref_out (op : Int) (h : op < 60 ∨ 199 < op) : grommetref03_Args.f 20 op = some (-1) := by
  unfold grommetref03_Args.f
  rw [if_neg (by omega), if_neg (by omega)]
  have e : (op == 173) = false := by rw [beq_eq_false_iff_ne]; omega
  rw [e]
  have hj : grommetref03_Args.j0 20 op false = some (-1) := by
    simp only [grommetref03_Args.j0, Bool.false_eq_true, if_false]
    repeat' split
    all_goals first | rfl | (exfalso; omega)
  rw [hj]
  repeat' split
  all_goals first | rfl | (exfalso; omega)

theorem NumArgs : grommetlaw03_NumArgs.Pure := by
  intro op w
  refine ⟨20, ?_⟩
  by_cases h : op < 60 ∨ 199 < op
  · unfold grommetlaw03_NumArgs.f num_Args.f
    rw [up_args, row_out op h, ref_out op h]
    rfl
  · have := inside ⟨(op - 60).toNat, by omega⟩
    rw [show ((60 + (op - 60).toNat : Nat) : Int) = op from by omega] at this
    exact this

end Go.Proofs.YtgplakhkofchiaaDoor.Pure
