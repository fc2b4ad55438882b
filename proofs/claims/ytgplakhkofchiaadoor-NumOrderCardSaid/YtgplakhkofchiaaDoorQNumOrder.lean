/- What the printed functions of num answer, said in plain words: which row of the table, the arguments' check, a comparison, an operation of the great row. -/
import Derived.Test.YtgplakhkofchiaaDoorRNumOrderx4
import Derived.OpenShut
set_option linter.unusedVariables false
set_option linter.unusedSimpArgs false
namespace Go.Proofs.YtgplakhkofchiaaDoor.QNumOrder
open Go.RowKit Go.Proofs.YtgplakhkofchiaaDoor.Man Go.Proofs.YtgplakhkofchiaaDoor.RNumOrder Go.Proofs.YtgplakhkofchiaaDoorW.PrintWords Go.Proofs.YtgplakhkofchiaaDoorW.PrintLast Go.Proofs.YtgplakhkofchiaaDoorW.PrintMore

theorem up_f (k : Nat) (hk : 20 ≤ k) : grommetlaw03_up.f k = some true := by
  have h : grommetlaw03_up.f 20 = some true := by decide +kernel
  exact at_rounds (g := fun k => grommetlaw03_up.f k) (grommetlaw03_up.mono) hk h

theorem wu64 (n : Int) : IntKind.u64.wrap n = n % 18446744073709551616 := by
  simp only [IntKind.wrap, IntKind.bits, IntKind.signed]; simp
theorem w64 (n : Int) (h0 : -9223372036854775808 ≤ n) (h1 : n < 9223372036854775808) : wrap64 n = n := by unfold wrap64; omega
theorem nat64 (a b : Nat) (ha : a < 18446744073709551616) (hb : b < 18446744073709551616) : Go.bits .and .u64 (a : Int) (b : Int) = ((a &&& b : Nat) : Int) ∧ Go.bits .or .u64 (a : Int) (b : Int) = ((a ||| b : Nat) : Int) :=
  bits_nat .u64 64 (by decide) (fun n h0 h => by rw [wu64]; omega) a b (by omega) (by omega)
theorem and32 (a : Nat) (ha : a < 18446744073709551616) : Go.bits .and .u64 (a : Int) 4294967295 = ((a % 4294967296 : Nat) : Int) := by
  have := (nat64 a 4294967295 ha (by decide)).1
  rw [show ((4294967295 : Nat) : Int) = 4294967295 from rfl] at this
  rw [this, show 4294967295 = 2 ^ 32 - 1 from rfl, Nat.and_two_pow_sub_one_eq_mod]

/-- A value of n bits, n 32 or 64. -/
def In (x : Int) (n : Int) : Prop := 0 ≤ x ∧ x < 18446744073709551616 ∧ (n = 32 → x < 4294967296)
theorem cut_in {x n : Int} (h : In x n) : num_cut.f x n = some x := by
  obtain ⟨h0, h1, h2⟩ := h
  unfold num_cut.f
  by_cases hn : n = 32
  · obtain ⟨a, rfl⟩ := Int.eq_ofNat_of_zero_le h0
    have := h2 hn
    rw [if_pos hn, and32 a (by omega)]
    congr 1; omega
  · rw [if_neg hn]
/-- What is cut to n bits. -/
def cutN (v n : Int) : Int := if n = 32 then v % 4294967296 else v
theorem cut_f {v n : Int} (h0 : 0 ≤ v) (h1 : v < 18446744073709551616) : num_cut.f v n = some (cutN v n) := by
  unfold num_cut.f cutN
  obtain ⟨a, rfl⟩ := Int.eq_ofNat_of_zero_le h0
  by_cases hn : n = 32
  · rw [if_pos hn, if_pos hn, and32 a (by omega)]
    congr 1
  · rw [if_neg hn, if_neg hn]

theorem row_k {op : Int} {r : Int × Int × Int × Bool} (h : num_row.f 20 op = some r) (k : Nat) (hk : 20 ≤ k) : num_row.f k op = some r :=
  at_rounds (g := fun k => num_row.f k op) (num_row.mono op) hk h
theorem args_k {op : Int} {r : Int × Bool} (h : num_Args.f 20 op = some r) (k : Nat) (hk : 20 ≤ k) : num_Args.f k op = some r :=
  at_rounds (g := fun k => num_Args.f k op) (num_Args.mono op) hk h

/-- The arguments' check, all of them right. -/
theorem Eval_l0 (l : List Int) (first i n : Int) (hin : ∀ x ∈ l, In x n) (hl : l.length ≤ 1000) : ∀ (d k j : Nat), j + d = l.length →
    num_Eval.l0 (k + d) l first i n l (l.length : Int) (j : Int) = num_Eval.l0 k l first i n l (l.length : Int) (l.length : Int) := by
  intro d
  induction d with
  | zero => intro k j h; obtain rfl : j = l.length := by omega
            rfl
  | succ d ih =>
    intro k j h
    rw [show k + (d + 1) = (k + d) + 1 from by omega, num_Eval.l0]
    have hj : j < l.length := by omega
    have hx : rd l (j : Int) = l[j] := by simp [rd, List.getD, hj]
    rw [if_pos (by omega), if_pos (by omega), if_pos (by omega), hx, cut_in (hin _ (List.getElem_mem hj))]
    simp only [Option.bind_some, if_true]
    rw [w64 _ (by omega) (by omega), show (j : Int) + 1 = ((j + 1 : Nat) : Int) from by omega]
    exact ih k (j + 1) (by omega)

/-- Eval, its arguments right: what follows the check. -/
theorem Eval_f {op first i n many : Int} (hrow : num_row.f 20 op = some (first, i, n, true)) (hargs : num_Args.f 20 op = some (many, true)) (l : List Int) (hlen : (l.length : Int) = many) (hl : l.length ≤ 1000)
    (hin : ∀ x ∈ l, In x n) (k : Nat) : num_Eval.f (k + l.length + 22) op l = num_Eval.l0 (k + 21) l first i n l (l.length : Int) (l.length : Int) := by
  unfold num_Eval.f
  rw [row_k hrow _ (by omega), args_k hargs _ (by omega)]
  simp only [Option.bind_some, if_true]
  rw [show ((l.length : Int) != many) = false from by rw [hlen]; simp, show k + l.length + 22 = (k + 21 + l.length) + 1 from by omega, num_Eval.j0, if_neg (by decide)]
  exact Eval_l0 l first i n hin hl l.length (k + 21) 0 (by omega)

/-- A value with its sign. -/
def sg (x n : Int) : Int := if n = 32 then wrap32 x else wrap64 x
theorem signed_f {x n : Int} (h : In x n) : num_signed.f x n = some (sg x n) := by
  obtain ⟨h0, h1, h2⟩ := h
  unfold num_signed.f sg
  by_cases hn : n = 32
  · have := h2 hn
    rw [if_pos hn, if_pos hn, w64 _ (by unfold wrap32; omega) (by unfold wrap32; omega), Int.emod_eq_of_lt h0 this]
  · rw [if_neg hn, if_neg hn]
/-- The i-th comparison. -/
def cmp (i x y n : Int) : Bool :=
  if i = 0 then x == y else if i = 1 then x != y else if i = 2 then decide (sg x n < sg y n) else if i = 3 then decide (x < y) else if i = 4 then decide (sg x n > sg y n) else if i = 5 then decide (x > y)
  else if i = 6 then decide (sg x n ≤ sg y n) else if i = 7 then decide (x ≤ y) else if i = 8 then decide (sg x n ≥ sg y n) else decide (x ≥ y)
theorem compare_f {i x y n : Int} (hx : In x n) (hy : In y n) : num_compare.f i x y n = some (cmp i x y n) := by
  unfold num_compare.f cmp
  rw [signed_f hx, signed_f hy]
  simp only [Option.bind_some]
  repeat' split
  all_goals rfl
def bit (b : Bool) : Int := if b = true then 1 else 0
theorem bit_f (b : Bool) : num_bit.f b = some (bit b) := by unfold num_bit.f bit; split <;> rfl

/-- A comparison, through Eval. -/
theorem Eval_cmp {op i n x y : Int} (hrow : num_row.f 20 op = some (70, i, n, true)) (hargs : num_Args.f 20 op = some (2, true)) (hx : In x n) (hy : In y n) (k : Nat) (hk : 24 ≤ k) :
    num_Eval.f k op [x, y] = some (bit (cmp i x y n), 0, none) := by
  obtain ⟨k, rfl⟩ : ∃ j, k = j + 2 + 22 := ⟨k - 24, by omega⟩
  have := Eval_f hrow hargs [x, y] rfl (by simp) (fun z hz => by simp at hz; rcases hz with rfl | rfl <;> assumption) k
  rw [show [x, y].length = 2 from rfl] at this
  rw [this, show k + 21 = (k + 20) + 1 from rfl, num_Eval.l0]
  rw [if_neg (by omega), if_pos (by simp), if_neg (by decide), if_pos rfl, if_pos (by simp)]
  rw [show rd [x, y] 0 = x from rfl, show rd [x, y] 1 = y from rfl, compare_f hx hy]
  simp only [Option.bind_some]
  rw [bit_f]
  rfl

/-- An operation of the great row, through Eval. -/
theorem Eval_two {op i n x y v tr : Int} (hrow : num_row.f 20 op = some (106, i, n, true)) (hargs : num_Args.f 20 op = some (2, true)) (hx : In x n) (hy : In y n) (k : Nat) (hk : 40 ≤ k)
    (htwo : ∀ k, 15 ≤ k → num_two.f k i x y n = some (v, tr)) (h0 : 0 ≤ v) (h1 : v < 18446744073709551616) :
    num_Eval.f k op [x, y] = some (cutN v n, tr, none) := by
  obtain ⟨k, rfl⟩ : ∃ j, k = j + 2 + 22 := ⟨k - 24, by omega⟩
  have := Eval_f hrow hargs [x, y] rfl (by simp) (fun z hz => by simp at hz; rcases hz with rfl | rfl <;> assumption) k
  rw [show [x, y].length = 2 from rfl] at this
  rw [this, show k + 21 = (k + 20) + 1 from rfl, num_Eval.l0]
  rw [if_neg (by omega), if_pos (by simp), if_neg (by decide), if_neg (by decide), if_neg (by decide), if_pos rfl, if_pos (by simp)]
  rw [show rd [x, y] 0 = x from rfl, show rd [x, y] 1 = y from rfl, htwo _ (by omega)]
  simp only [Option.bind_some]
  rw [cut_f h0 h1]
  rfl

end Go.Proofs.YtgplakhkofchiaaDoor.QNumOrder
