/- What the printed functions of num answer, said in plain words: which row of the table, the arguments' check, a comparison, an operation of the great row. -/
import Derived.Test.YtgplakhkofchiaaDoorRNumShiftsx4
import Derived.OpenShut
set_option linter.unusedVariables false
set_option linter.unusedSimpArgs false
namespace Go.Proofs.YtgplakhkofchiaaDoor.QNumShifts
open Go.RowKit Go.Proofs.YtgplakhkofchiaaDoor.Man Go.Proofs.YtgplakhkofchiaaDoor.RNumShifts Go.Proofs.YtgplakhkofchiaaDoorW.PrintWords Go.Proofs.YtgplakhkofchiaaDoorW.PrintLast Go.Proofs.YtgplakhkofchiaaDoorW.PrintMore

theorem up_f (k : Nat) (hk : 20 ≤ k) : grommetlaw03_up.f k = some true := by
  have h : grommetlaw03_up.f 20 = some true := by decide +kernel
  exact at_rounds (g := fun k => grommetlaw03_up.f k) (grommetlaw03_up.mono) hk h

theorem wu64 (n : Int) : IntKind.u64.wrap n = n % 18446744073709551616 := by
  simp only [IntKind.wrap, IntKind.bits, IntKind.signed]; simp
theorem w64 (n : Int) (h0 : -9223372036854775808 ≤ n) (h1 : n < 9223372036854775808) : wrap64 n = n := by unfold wrap64; omega
theorem nat64 (a b : Nat) (ha : a < 18446744073709551616) (hb : b < 18446744073709551616) : Go.bits .and .u64 (a : Int) (b : Int) = ((a &&& b : Nat) : Int) ∧ Go.bits .or .u64 (a : Int) (b : Int) = ((a ||| b : Nat) : Int) :=
  bits_nat .u64 64 (by decide) (fun n h0 h => by rw [wu64]; omega) a b (by omega) (by omega)
theorem and32 (a : Nat) (ha : a < 18446744073709551616) : Go.bits .and .u64 (a : Int) 4294967295 = ((a % 4294967296 : Nat) : Int) := by
  have := (nat64 a 4294967295 ha (by decide)).1
  rw [show ((4294967295 : Nat) : Int) = 4294967295 from rfl] at this
  rw [this, show 4294967295 = 2 ^ 32 - 1 from rfl, Nat.and_two_pow_sub_one_eq_mod]

theorem bits_xor_nat (a b : Nat) (ha : a < 18446744073709551616) (hb : b < 18446744073709551616) : Go.bits .xor .u64 (a : Int) (b : Int) = ((a ^^^ b : Nat) : Int) := by
  have hx : a ^^^ b < 2 ^ 64 := Nat.xor_lt_two_pow (by omega) (by omega)
  have h1 : (BitVec.ofInt 64 (a : Int)).toNat = a := by rw [BitVec.ofInt_natCast, BitVec.toNat_ofNat]; exact Nat.mod_eq_of_lt (by omega)
  have h2 : (BitVec.ofInt 64 (b : Int)).toNat = b := by rw [BitVec.ofInt_natCast, BitVec.toNat_ofNat]; exact Nat.mod_eq_of_lt (by omega)
  show IntKind.u64.wrap ((BitVec.ofInt 64 (a : Int) ^^^ BitVec.ofInt 64 (b : Int)).toNat : Int) = _
  rw [BitVec.toNat_xor, h1, h2, wu64]; omega

/-- A value of n bits, n 32 or 64. -/
def In (x : Int) (n : Int) : Prop := 0 ≤ x ∧ x < 18446744073709551616 ∧ (n = 32 → x < 4294967296)
theorem cut_in {x n : Int} (h : In x n) : num_cut.f x n = some x := by
  obtain ⟨h0, h1, h2⟩ := h
  unfold num_cut.f
  by_cases hn : n = 32
  · obtain ⟨a, rfl⟩ := Int.eq_ofNat_of_zero_le h0
    have := h2 hn
    rw [if_pos hn, and32 a (by omega)]
    congr 1; omega
  · rw [if_neg hn]
/-- What is cut to n bits. -/
def cutN (v n : Int) : Int := if n = 32 then v % 4294967296 else v
theorem cut_f {v n : Int} (h0 : 0 ≤ v) (h1 : v < 18446744073709551616) : num_cut.f v n = some (cutN v n) := by
  unfold num_cut.f cutN
  obtain ⟨a, rfl⟩ := Int.eq_ofNat_of_zero_le h0
  by_cases hn : n = 32
  · rw [if_pos hn, if_pos hn, and32 a (by omega)]
    congr 1
  · rw [if_neg hn, if_neg hn]

theorem row_k {op : Int} {r : Int × Int × Int × Bool} (h : num_row.f 20 op = some r) (k : Nat) (hk : 20 ≤ k) : num_row.f k op = some r :=
  at_rounds (g := fun k => num_row.f k op) (num_row.mono op) hk h
theorem args_k {op : Int} {r : Int × Bool} (h : num_Args.f 20 op = some r) (k : Nat) (hk : 20 ≤ k) : num_Args.f k op = some r :=
  at_rounds (g := fun k => num_Args.f k op) (num_Args.mono op) hk h

/-- The arguments' check, all of them right. -/
theorem Eval_l0 (l : List Int) (first i n : Int) (hin : ∀ x ∈ l, In x n) (hl : l.length ≤ 1000) : ∀ (d k j : Nat), j + d = l.length →
    num_Eval.l0 (k + d) l first i n l (l.length : Int) (j : Int) = num_Eval.l0 k l first i n l (l.length : Int) (l.length : Int) := by
  intro d
  induction d with
  | zero => intro k j h; obtain rfl : j = l.length := by omega
            rfl
  | succ d ih =>
    intro k j h
    rw [show k + (d + 1) = (k + d) + 1 from by omega, num_Eval.l0]
    have hj : j < l.length := by omega
    have hx : rd l (j : Int) = l[j] := by simp [rd, List.getD, hj]
    rw [if_pos (by omega), if_pos (by omega), if_pos (by omega), hx, cut_in (hin _ (List.getElem_mem hj))]
    simp only [Option.bind_some, if_true]
    rw [w64 _ (by omega) (by omega), show (j : Int) + 1 = ((j + 1 : Nat) : Int) from by omega]
    exact ih k (j + 1) (by omega)

/-- Eval, its arguments right: what follows the check. -/
theorem Eval_f {op first i n many : Int} (hrow : num_row.f 20 op = some (first, i, n, true)) (hargs : num_Args.f 20 op = some (many, true)) (l : List Int) (hlen : (l.length : Int) = many) (hl : l.length ≤ 1000)
    (hin : ∀ x ∈ l, In x n) (k : Nat) : num_Eval.f (k + l.length + 22) op l = num_Eval.l0 (k + 21) l first i n l (l.length : Int) (l.length : Int) := by
  unfold num_Eval.f
  rw [row_k hrow _ (by omega), args_k hargs _ (by omega)]
  simp only [Option.bind_some, if_true]
  rw [show ((l.length : Int) != many) = false from by rw [hlen]; simp, show k + l.length + 22 = (k + 21 + l.length) + 1 from by omega, num_Eval.j0, if_neg (by decide)]
  exact Eval_l0 l first i n hin hl l.length (k + 21) 0 (by omega)

/-- A value with its sign. -/
def sg (x n : Int) : Int := if n = 32 then wrap32 x else wrap64 x
theorem signed_f {x n : Int} (h : In x n) : num_signed.f x n = some (sg x n) := by
  obtain ⟨h0, h1, h2⟩ := h
  unfold num_signed.f sg
  by_cases hn : n = 32
  · have := h2 hn
    rw [if_pos hn, if_pos hn, w64 _ (by unfold wrap32; omega) (by unfold wrap32; omega), Int.emod_eq_of_lt h0 this]
  · rw [if_neg hn, if_neg hn]
/-- The i-th comparison. -/
def cmp (i x y n : Int) : Bool :=
  if i = 0 then x == y else if i = 1 then x != y else if i = 2 then decide (sg x n < sg y n) else if i = 3 then decide (x < y) else if i = 4 then decide (sg x n > sg y n) else if i = 5 then decide (x > y)
  else if i = 6 then decide (sg x n ≤ sg y n) else if i = 7 then decide (x ≤ y) else if i = 8 then decide (sg x n ≥ sg y n) else decide (x ≥ y)
theorem compare_f {i x y n : Int} (hx : In x n) (hy : In y n) : num_compare.f i x y n = some (cmp i x y n) := by
  unfold num_compare.f cmp
  rw [signed_f hx, signed_f hy]
  simp only [Option.bind_some]
  repeat' split
  all_goals rfl
def bit (b : Bool) : Int := if b = true then 1 else 0
theorem bit_f (b : Bool) : num_bit.f b = some (bit b) := by unfold num_bit.f bit; split <;> rfl

/-- A comparison, through Eval. -/
theorem Eval_cmp {op i n x y : Int} (hrow : num_row.f 20 op = some (70, i, n, true)) (hargs : num_Args.f 20 op = some (2, true)) (hx : In x n) (hy : In y n) (k : Nat) (hk : 24 ≤ k) :
    num_Eval.f k op [x, y] = some (bit (cmp i x y n), 0, none) := by
  obtain ⟨k, rfl⟩ : ∃ j, k = j + 2 + 22 := ⟨k - 24, by omega⟩
  have := Eval_f hrow hargs [x, y] rfl (by simp) (fun z hz => by simp at hz; rcases hz with rfl | rfl <;> assumption) k
  rw [show [x, y].length = 2 from rfl] at this
  rw [this, show k + 21 = (k + 20) + 1 from rfl, num_Eval.l0]
  rw [if_neg (by omega), if_pos (by simp), if_neg (by decide), if_pos rfl, if_pos (by simp)]
  rw [show rd [x, y] 0 = x from rfl, show rd [x, y] 1 = y from rfl, compare_f hx hy]
  simp only [Option.bind_some]
  rw [bit_f]
  rfl

/-- An operation of the great row, through Eval. -/
theorem Eval_two {op i n x y v tr : Int} (hrow : num_row.f 20 op = some (106, i, n, true)) (hargs : num_Args.f 20 op = some (2, true)) (hx : In x n) (hy : In y n) (k : Nat) (hk : 40 ≤ k)
    (htwo : ∀ k, 15 ≤ k → num_two.f k i x y n = some (v, tr)) (h0 : 0 ≤ v) (h1 : v < 18446744073709551616) :
    num_Eval.f k op [x, y] = some (cutN v n, tr, none) := by
  obtain ⟨k, rfl⟩ : ∃ j, k = j + 2 + 22 := ⟨k - 24, by omega⟩
  have := Eval_f hrow hargs [x, y] rfl (by simp) (fun z hz => by simp at hz; rcases hz with rfl | rfl <;> assumption) k
  rw [show [x, y].length = 2 from rfl] at this
  rw [this, show k + 21 = (k + 20) + 1 from rfl, num_Eval.l0]
  rw [if_neg (by omega), if_pos (by simp), if_neg (by decide), if_neg (by decide), if_neg (by decide), if_pos rfl, if_pos (by simp)]
  rw [show rd [x, y] 0 = x from rfl, show rd [x, y] 1 = y from rfl, htwo _ (by omega)]
  simp only [Option.bind_some]
  rw [cut_f h0 h1]
  rfl

/-! ### operations of the great row -/
theorem and_or_add (a b : Nat) : (a &&& b) + (a ||| b) = a + b := by
  induction a using Nat.strongRecOn generalizing b with
  | ind a ih =>
    by_cases h : a = 0
    · subst h; simp
    · have := ih (a / 2) (by omega) (b / 2)
      have e1 : (a &&& b) = 2 * (a / 2 &&& b / 2) + (a % 2 &&& b % 2) := by
        have h1 := Nat.div_add_mod (a &&& b) 2
        rw [Nat.and_div_two, Nat.and_mod_two_pow (n := 1)] at h1
        simp only [Nat.pow_one] at h1
        omega
      have e2 : (a ||| b) = 2 * (a / 2 ||| b / 2) + (a % 2 ||| b % 2) := by
        have h1 := Nat.div_add_mod (a ||| b) 2
        rw [Nat.or_div_two, Nat.or_mod_two_pow (n := 1)] at h1
        simp only [Nat.pow_one] at h1
        omega
      have h3 : (a % 2 &&& b % 2) + (a % 2 ||| b % 2) = a % 2 + b % 2 := by
        rcases Nat.mod_two_eq_zero_or_one a with h | h <;> rcases Nat.mod_two_eq_zero_or_one b with h' | h' <;> rw [h, h'] <;> rfl
      omega
theorem and_xor_or (a b : Nat) : (a &&& b) + (a ^^^ b) = (a ||| b) := by
  induction a using Nat.strongRecOn generalizing b with
  | ind a ih =>
    by_cases h : a = 0
    · subst h; simp
    · have := ih (a / 2) (by omega) (b / 2)
      have e1 : (a &&& b) = 2 * (a / 2 &&& b / 2) + (a % 2 &&& b % 2) := by
        have h1 := Nat.div_add_mod (a &&& b) 2
        rw [Nat.and_div_two, Nat.and_mod_two_pow (n := 1)] at h1
        simp only [Nat.pow_one] at h1
        omega
      have e2 : (a ||| b) = 2 * (a / 2 ||| b / 2) + (a % 2 ||| b % 2) := by
        have h1 := Nat.div_add_mod (a ||| b) 2
        rw [Nat.or_div_two, Nat.or_mod_two_pow (n := 1)] at h1
        simp only [Nat.pow_one] at h1
        omega
      have e3 : (a ^^^ b) = 2 * (a / 2 ^^^ b / 2) + (a % 2 ^^^ b % 2) := by
        have h1 := Nat.div_add_mod (a ^^^ b) 2
        rw [Nat.xor_div_two, Nat.xor_mod_two_pow (n := 1)] at h1
        simp only [Nat.pow_one] at h1
        omega
      have h3 : (a % 2 &&& b % 2) + (a % 2 ^^^ b % 2) = (a % 2 ||| b % 2) := by
        rcases Nat.mod_two_eq_zero_or_one a with h | h <;> rcases Nat.mod_two_eq_zero_or_one b with h' | h' <;> rw [h, h'] <;> rfl
      omega

theorem two_plain {x y n : Int} (hn : n = 32 ∨ n = 64) (hx : In x n) (hy : In y n) (k : Nat) (hk : 4 ≤ k) :
    num_two.f k 0 x y n = some ((x + y) % 18446744073709551616, 0) ∧ num_two.f k 1 x y n = some ((x - y) % 18446744073709551616, 0) ∧ num_two.f k 2 x y n = some ((x * y) % 18446744073709551616, 0) := by
  have hw : ¬ IntKind.u64.wrap n = 0 := by rw [wu64]; omega
  refine ⟨?_, ?_, ?_⟩
  · unfold num_two.f; rw [if_neg hw, if_pos rfl, wu64]
  · unfold num_two.f; rw [if_neg hw, if_neg (by decide), if_pos rfl, wu64]
  · unfold num_two.f; rw [if_neg hw, if_neg (by decide), if_neg (by decide), if_pos rfl, wu64]

/-- Which way the operations from 7 on go. -/
theorem two_high {i x y n : Int} (hn : n = 32 ∨ n = 64) (hx : In x n) (hy : In y n) (hi : 7 ≤ i) (k : Nat) :
    num_two.f (k + 1) i x y n = num_two.j0 (k + 1) i x y n (y % n) i false := by
  have hw : ¬ IntKind.u64.wrap n = 0 := by rw [wu64]; omega
  have hy0 := hy.1
  have e : wrap64 (Int.tmod y (IntKind.u64.wrap n)) = y % n := by
    rw [wu64, Int.tmod_eq_emod_of_nonneg hy0]
    rcases hn with rfl | rfl
    · rw [show (32 : Int) % 18446744073709551616 = 32 from rfl, w64 _ (by omega) (by omega)]
    · rw [show (64 : Int) % 18446744073709551616 = 64 from rfl, w64 _ (by omega) (by omega)]
  unfold num_two.f
  rw [if_neg hw, if_neg (by omega), if_neg (by omega), if_neg (by omega), if_neg (by omega), if_neg (by omega), if_neg (by omega), e]
  rw [show (i == 6) = false from by rw [beq_eq_false_iff_ne]; omega]

theorem two_and {x y n : Int} (hn : n = 32 ∨ n = 64) (hx : In x n) (hy : In y n) (k : Nat) (hk : 4 ≤ k) :
    num_two.f k 7 x y n = some (((x.toNat &&& y.toNat : Nat) : Int), 0) ∧ num_two.f k 8 x y n = some (((x.toNat ||| y.toNat : Nat) : Int), 0) ∧ num_two.f k 9 x y n = some (((x.toNat ^^^ y.toNat : Nat) : Int), 0) := by
  obtain ⟨k, rfl⟩ : ∃ j, k = j + 1 := ⟨k - 1, by omega⟩
  have hx' := hx
  have hy' := hy
  obtain ⟨x0, x1, _⟩ := hx'
  obtain ⟨y0, y1, _⟩ := hy'
  obtain ⟨a, rfl⟩ := Int.eq_ofNat_of_zero_le x0
  obtain ⟨b, rfl⟩ := Int.eq_ofNat_of_zero_le y0
  refine ⟨?_, ?_, ?_⟩
  · rw [two_high hn hx hy (by omega), num_two.j0, if_neg (by decide), if_pos rfl, (nat64 a b (by omega) (by omega)).1]; rfl
  · rw [two_high hn hx hy (by omega), num_two.j0, if_neg (by decide), if_neg (by decide), if_pos rfl, (nat64 a b (by omega) (by omega)).2]; rfl
  · rw [two_high hn hx hy (by omega), num_two.j0, if_neg (by decide), if_neg (by decide), if_neg (by decide), if_pos rfl, bits_xor_nat a b (by omega) (by omega)]; rfl

theorem two_shl {x y n : Int} (hn : n = 32 ∨ n = 64) (hx : In x n) (hy : In y n) (k : Nat) (hk : 4 ≤ k) :
    num_two.f k 10 x y n = some ((x * 2 ^ (y % n).toNat) % 18446744073709551616, 0) := by
  obtain ⟨k, rfl⟩ : ∃ j, k = j + 1 := ⟨k - 1, by omega⟩
  have hr : 0 ≤ y % n ∧ y % n < 64 := by rcases hn with rfl | rfl <;> omega
  rw [two_high hn hx hy (by omega), num_two.j0, if_neg (by decide), if_neg (by decide), if_neg (by decide), if_neg (by decide), if_pos rfl, if_pos hr.1]
  unfold shl
  rw [show min (y % n).toNat (IntKind.bits .u64) = (y % n).toNat from by simp [IntKind.bits]; omega, wu64]

/-! ### the great row's operations, by their places -/
def Base (base n : Int) : Prop := (base = 106 ∧ n = 32) ∨ (base = 124 ∧ n = 64)
theorem rows32 : ∀ i : Fin 15, num_row.f 20 (106 + (i.val : Int)) = some (106, (i.val : Int), 32, true) ∧ num_Args.f 20 (106 + (i.val : Int)) = some (2, true) := by decide +kernel
theorem rows64 : ∀ i : Fin 15, num_row.f 20 (124 + (i.val : Int)) = some (106, (i.val : Int), 64, true) ∧ num_Args.f 20 (124 + (i.val : Int)) = some (2, true) := by decide +kernel
theorem Base.n {base n : Int} (h : Base base n) : n = 32 ∨ n = 64 := by rcases h with ⟨_, rfl⟩ | ⟨_, rfl⟩ <;> simp
theorem ev {base n x y v tr : Int} (hb : Base base n) (hx : In x n) (hy : In y n) (i : Nat) (hi : i < 15) (op : Int) (hop : op = base + (i : Int)) (k : Nat) (hk : 40 ≤ k)
    (htwo : ∀ k, 15 ≤ k → num_two.f k (i : Int) x y n = some (v, tr)) (h0 : 0 ≤ v) (h1 : v < 18446744073709551616) : num_Eval.f k op [x, y] = some (cutN v n, tr, none) := by
  subst hop
  rcases hb with ⟨rfl, rfl⟩ | ⟨rfl, rfl⟩
  · have := rows32 ⟨i, hi⟩
    exact Eval_two this.1 this.2 hx hy k hk htwo h0 h1
  · have := rows64 ⟨i, hi⟩
    exact Eval_two this.1 this.2 hx hy k hk htwo h0 h1
theorem cut_of_in {x n : Int} (h : In x n) : cutN x n = x := by
  unfold cutN
  split
  · rename_i hn; exact Int.emod_eq_of_lt h.1 (h.2.2 hn)
  · rfl
theorem in_cut {v n : Int} (h0 : 0 ≤ v) (h1 : v < 18446744073709551616) : In (cutN v n) n := by
  unfold cutN
  split
  · exact ⟨by omega, by omega, fun _ => by omega⟩
  · rename_i hn; exact ⟨h0, h1, fun h => absurd h hn⟩

end Go.Proofs.YtgplakhkofchiaaDoor.QNumShifts
