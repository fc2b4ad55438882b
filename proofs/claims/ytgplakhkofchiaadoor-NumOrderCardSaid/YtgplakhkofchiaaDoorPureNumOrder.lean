/- Of two values one is below the other or they are the same, with a sign and without one, and what is not below is at least: for all values of 32 and of 64 bits, without a condition. -/
import Derived.Test.YtgplakhkofchiaaDoorRNumOrderx4
import Derived.Test.YtgplakhkofchiaaDoorQNumOrder
import Derived.OpenShut
set_option linter.unusedVariables false
set_option linter.unusedSimpArgs false
namespace Go.Proofs.YtgplakhkofchiaaDoor.Pure
open Go.RowKit Go.Proofs.YtgplakhkofchiaaDoor.Man Go.Proofs.YtgplakhkofchiaaDoor.RNumOrder Go.Proofs.YtgplakhkofchiaaDoorW.PrintWords Go.Proofs.YtgplakhkofchiaaDoorW.PrintLast Go.Proofs.YtgplakhkofchiaaDoor.QNumOrder

def Base (base n : Int) : Prop := (base = 70 ∧ n = 32) ∨ (base = 81 ∧ n = 64)
theorem rows32 : ∀ i : Fin 10, num_row.f 20 (70 + (i.val : Int)) = some (70, (i.val : Int), 32, true) ∧ num_Args.f 20 (70 + (i.val : Int)) = some (2, true) := by decide +kernel
theorem rows64 : ∀ i : Fin 10, num_row.f 20 (81 + (i.val : Int)) = some (70, (i.val : Int), 64, true) ∧ num_Args.f 20 (81 + (i.val : Int)) = some (2, true) := by decide +kernel

theorem ev {base n x y : Int} (hb : Base base n) (hx : In x n) (hy : In y n) (i : Nat) (hi : i < 10) (op : Int) (hop : op = base + (i : Int)) (k : Nat) (hk : 24 ≤ k) :
    num_Eval.f k op [x, y] = some (bit (cmp (i : Int) x y n), 0, none) := by
  subst hop
  rcases hb with ⟨rfl, rfl⟩ | ⟨rfl, rfl⟩
  · have := rows32 ⟨i, hi⟩
    exact Eval_cmp this.1 this.2 hx hy k hk
  · have := rows64 ⟨i, hi⟩
    exact Eval_cmp this.1 this.2 hx hy k hk

theorem sg_eq {base n x y : Int} (hb : Base base n) (hx : In x n) (hy : In y n) : sg x n = sg y n ↔ x = y := by
  obtain ⟨a0, a1, a2⟩ := hx
  obtain ⟨b0, b1, b2⟩ := hy
  rcases hb with ⟨rfl, rfl⟩ | ⟨rfl, rfl⟩
  · have := a2 rfl
    have := b2 rfl
    unfold sg
    rw [if_pos rfl, if_pos rfl]
    unfold wrap32; omega
  · unfold sg
    rw [if_neg (by decide), if_neg (by decide)]
    unfold wrap64; omega

theorem three (p q : Int) (e : Bool) (he : e = true ↔ p = q) :
    (IntKind.u64.wrap ((IntKind.u64.wrap (bit (decide (p < q)) + bit (decide (p > q)))) + bit e)) = 1 ∧ bit (decide (p ≤ q)) = (IntKind.u64.wrap (bit (decide (p < q)) + bit e)) ∧ bit (decide (p ≥ q)) = (IntKind.u64.wrap (bit (decide (p > q)) + bit e)) := by
  rw [wu64, wu64, wu64, wu64]
  rcases (show p < q ∨ p = q ∨ q < p by omega) with h | h | h
  · have e0 : e = false := by cases e with
      | false => rfl
      | true => have := he.1 rfl; omega
    rw [e0, decide_eq_true h, decide_eq_false (show ¬ p > q by omega), decide_eq_true (show p ≤ q by omega), decide_eq_false (show ¬ p ≥ q by omega)]
    decide
  · have e0 : e = true := he.2 h
    rw [e0, decide_eq_false (show ¬ p < q by omega), decide_eq_false (show ¬ p > q by omega), decide_eq_true (show p ≤ q by omega), decide_eq_true (show p ≥ q by omega)]
    decide
  · have e0 : e = false := by cases e with
      | false => rfl
      | true => have := he.1 rfl; omega
    rw [e0, decide_eq_false (show ¬ p < q by omega), decide_eq_true (show p > q by omega), decide_eq_false (show ¬ p ≤ q by omega), decide_eq_true (show p ≥ q by omega)]
    decide

theorem loop {base n x y : Int} (hb : Base base n) (hx : In x n) (hy : In y n) (k : Nat) (hk : 40 ≤ k) : grommetlaw03_NumOrder.l0 k true base [x, y] (bit (x == y)) 0 = some true := by
  have hb0 : 0 ≤ base ∧ base < 100 := by rcases hb with ⟨rfl, rfl⟩ | ⟨rfl, rfl⟩ <;> omega
  have step : ∀ (k s : Nat), 24 ≤ k → s < 2 → grommetlaw03_NumOrder.l0 (k + 1) true base [x, y] (bit (x == y)) (s : Int) = grommetlaw03_NumOrder.l0 k true base [x, y] (bit (x == y)) ((s + 1 : Nat) : Int) := by
    intro k s hk hs
    rw [grommetlaw03_NumOrder.l0, if_pos (by omega)]
    rw [w64 (base + 2) (by omega) (by omega), w64 (base + 4) (by omega) (by omega), w64 (base + 6) (by omega) (by omega), w64 (base + 8) (by omega) (by omega)]
    rw [w64 (base + 2 + s) (by omega) (by omega), w64 (base + 4 + s) (by omega) (by omega), w64 (base + 6 + s) (by omega) (by omega), w64 (base + 8 + s) (by omega) (by omega), w64 ((s : Int) + 1) (by omega) (by omega)]
    rw [ev hb hx hy (2 + s) (by omega) (base + 2 + s) (by omega) k hk, ev hb hx hy (4 + s) (by omega) (base + 4 + s) (by omega) k hk, ev hb hx hy (6 + s) (by omega) (base + 6 + s) (by omega) k hk, ev hb hx hy (8 + s) (by omega) (base + 8 + s) (by omega) k hk]
    simp only [Option.bind_some, Option.isNone_none, if_true]
    have key : (IntKind.u64.wrap ((IntKind.u64.wrap (bit (cmp ((2 + s : Nat) : Int) x y n) + bit (cmp ((4 + s : Nat) : Int) x y n))) + bit (x == y))) = 1 ∧ bit (cmp ((6 + s : Nat) : Int) x y n) = (IntKind.u64.wrap (bit (cmp ((2 + s : Nat) : Int) x y n) + bit (x == y))) ∧ bit (cmp ((8 + s : Nat) : Int) x y n) = (IntKind.u64.wrap (bit (cmp ((4 + s : Nat) : Int) x y n) + bit (x == y))) := by
      rcases (show s = 0 ∨ s = 1 by omega) with rfl | rfl
      · exact three (sg x n) (sg y n) (x == y) (by rw [beq_iff_eq]; exact (sg_eq hb hx hy).symm)
      · exact three x y (x == y) (by rw [beq_iff_eq])
    rw [if_pos key.1, if_pos key.2.1, if_pos key.2.2]
    rfl
  obtain ⟨k, rfl⟩ : ∃ j, k = j + 1 + 1 + 1 := ⟨k - 3, by omega⟩
  have e0 := step (k + 1 + 1) 0 (by omega) (by omega)
  have e1 := step (k + 1) 1 (by omega) (by omega)
  rw [show ((0 : Nat) : Int) = 0 from rfl] at e0
  rw [e0, e1, grommetlaw03_NumOrder.l0, if_neg (by decide)]

theorem body {base n x y : Int} (hb : Base base n) (hx : In x n) (hy : In y n) (k : Nat) (hk : 60 ≤ k) : grommetlaw03_NumOrder.j0 k x y true base = some true := by
  have hb0 : 0 ≤ base ∧ base < 100 := by rcases hb with ⟨rfl, rfl⟩ | ⟨rfl, rfl⟩ <;> omega
  obtain ⟨k, rfl⟩ : ∃ j, k = j + 1 + 1 := ⟨k - 2, by omega⟩
  rw [grommetlaw03_NumOrder.j0]
  rw [Option.bind_some, w64 (base + 1) (by omega) (by omega), ev hb hx hy 0 (by omega) base (by omega) (k + 1) (by omega), ev hb hx hy 1 (by omega) (base + 1) (by omega) (k + 1) (by omega)]
  simp only [Option.bind_some, Option.isNone_none, if_true]
  rw [show cmp ((0 : Nat) : Int) x y n = (x == y) from rfl, show cmp ((1 : Nat) : Int) x y n = (x != y) from rfl]
  have : ((IntKind.u64.wrap (bit (x == y) + bit (x != y))) != 1) = false := by
    rw [wu64]
    by_cases h : x = y
    · subst h; simp [bit]
    · rw [beq_eq_false_iff_ne.2 h, bne_iff_ne.2 h]; decide
  rw [this, grommetlaw03_NumOrder.j1, if_neg (by decide)]
  exact loop hb hx hy k (by omega)

theorem NumOrder : grommetlaw03_NumOrder.Pure := by
  intro a b wide wa wb
  have ha := bounds_u64 wa
  have hb := bounds_u64 wb
  refine ⟨100, ?_⟩
  unfold grommetlaw03_NumOrder.f
  rw [up_f 100 (by omega)]
  simp only [Option.bind_some]
  cases wide with
  | true =>
    rw [if_pos rfl]
    exact body (n := 64) (.inr ⟨rfl, rfl⟩) ⟨by omega, by omega, fun h => by omega⟩ ⟨by omega, by omega, fun h => by omega⟩ 100 (by omega)
  | false =>
    rw [if_neg (by decide), Int.tmod_eq_emod_of_nonneg ha.1, Int.tmod_eq_emod_of_nonneg hb.1]
    exact body (n := 32) (.inl ⟨rfl, rfl⟩) ⟨by omega, by omega, fun h => by omega⟩ ⟨by omega, by omega, fun h => by omega⟩ 100 (by omega)

end Go.Proofs.YtgplakhkofchiaaDoor.Pure
