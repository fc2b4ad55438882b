/- What the printed functions of num answer, said in plain words: which row of the table, the arguments' check, a comparison, an operation of the great row. -/
import Derived.Test.YtgplakhkofchiaaDoorRNumStaysx4
import Derived.OpenShut
set_option linter.unusedVariables false
set_option linter.unusedSimpArgs false
namespace Go.Proofs.YtgplakhkofchiaaDoor.QNumStays
open Go.RowKit Go.Proofs.YtgplakhkofchiaaDoor.Man Go.Proofs.YtgplakhkofchiaaDoor.RNumStays Go.Proofs.YtgplakhkofchiaaDoorW.PrintWords Go.Proofs.YtgplakhkofchiaaDoorW.PrintLast Go.Proofs.YtgplakhkofchiaaDoorW.PrintMore

theorem up_f (k : Nat) (hk : 20 ≤ k) : grommetlaw03_up.f k = some true := by
  have h : grommetlaw03_up.f 20 = some true := by decide +kernel
  exact at_rounds (g := fun k => grommetlaw03_up.f k) (grommetlaw03_up.mono) hk h

theorem wu64 (n : Int) : IntKind.u64.wrap n = n % 18446744073709551616 := by
  simp only [IntKind.wrap, IntKind.bits, IntKind.signed]; simp
theorem w64 (n : Int) (h0 : -9223372036854775808 ≤ n) (h1 : n < 9223372036854775808) : wrap64 n = n := by unfold wrap64; omega
theorem nat64 (a b : Nat) (ha : a < 18446744073709551616) (hb : b < 18446744073709551616) : Go.bits .and .u64 (a : Int) (b : Int) = ((a &&& b : Nat) : Int) ∧ Go.bits .or .u64 (a : Int) (b : Int) = ((a ||| b : Nat) : Int) :=
  bits_nat .u64 64 (by decide) (fun n h0 h => by rw [wu64]; omega) a b (by omega) (by omega)
theorem and32 (a : Nat) (ha : a < 18446744073709551616) : Go.bits .and .u64 (a : Int) 4294967295 = ((a % 4294967296 : Nat) : Int) := by
  have := (nat64 a 4294967295 ha (by decide)).1
  rw [show ((4294967295 : Nat) : Int) = 4294967295 from rfl] at this
  rw [this, show 4294967295 = 2 ^ 32 - 1 from rfl, Nat.and_two_pow_sub_one_eq_mod]

theorem bits_xor_nat (a b : Nat) (ha : a < 18446744073709551616) (hb : b < 18446744073709551616) : Go.bits .xor .u64 (a : Int) (b : Int) = ((a ^^^ b : Nat) : Int) := by
  have hx : a ^^^ b < 2 ^ 64 := Nat.xor_lt_two_pow (by omega) (by omega)
  have h1 : (BitVec.ofInt 64 (a : Int)).toNat = a := by rw [BitVec.ofInt_natCast, BitVec.toNat_ofNat]; exact Nat.mod_eq_of_lt (by omega)
  have h2 : (BitVec.ofInt 64 (b : Int)).toNat = b := by rw [BitVec.ofInt_natCast, BitVec.toNat_ofNat]; exact Nat.mod_eq_of_lt (by omega)
  show IntKind.u64.wrap ((BitVec.ofInt 64 (a : Int) ^^^ BitVec.ofInt 64 (b : Int)).toNat : Int) = _
  rw [BitVec.toNat_xor, h1, h2, wu64]; omega

/-- A value of n bits, n 32 or 64. -/
def In (x : Int) (n : Int) : Prop := 0 ≤ x ∧ x < 18446744073709551616 ∧ (n = 32 → x < 4294967296)
theorem cut_in {x n : Int} (h : In x n) : num_cut.f x n = some x := by
  obtain ⟨h0, h1, h2⟩ := h
  unfold num_cut.f
  by_cases hn : n = 32
  · obtain ⟨a, rfl⟩ := Int.eq_ofNat_of_zero_le h0
    have := h2 hn
    rw [if_pos hn, and32 a (by omega)]
    congr 1; omega
  · rw [if_neg hn]
/-- What is cut to n bits. -/
def cutN (v n : Int) : Int := if n = 32 then v % 4294967296 else v
theorem cut_f {v n : Int} (h0 : 0 ≤ v) (h1 : v < 18446744073709551616) : num_cut.f v n = some (cutN v n) := by
  unfold num_cut.f cutN
  obtain ⟨a, rfl⟩ := Int.eq_ofNat_of_zero_le h0
  by_cases hn : n = 32
  · rw [if_pos hn, if_pos hn, and32 a (by omega)]
    congr 1
  · rw [if_neg hn, if_neg hn]

theorem row_k {op : Int} {r : Int × Int × Int × Bool} (h : num_row.f 20 op = some r) (k : Nat) (hk : 20 ≤ k) : num_row.f k op = some r :=
  at_rounds (g := fun k => num_row.f k op) (num_row.mono op) hk h
theorem args_k {op : Int} {r : Int × Bool} (h : num_Args.f 20 op = some r) (k : Nat) (hk : 20 ≤ k) : num_Args.f k op = some r :=
  at_rounds (g := fun k => num_Args.f k op) (num_Args.mono op) hk h

/-- The arguments' check, all of them right. -/
theorem Eval_l0 (l : List Int) (first i n : Int) (hin : ∀ x ∈ l, In x n) (hl : l.length ≤ 1000) : ∀ (d k j : Nat), j + d = l.length →
    num_Eval.l0 (k + d) l first i n l (l.length : Int) (j : Int) = num_Eval.l0 k l first i n l (l.length : Int) (l.length : Int) := by
  intro d
  induction d with
  | zero => intro k j h; obtain rfl : j = l.length := by omega
            rfl
  | succ d ih =>
    intro k j h
    rw [show k + (d + 1) = (k + d) + 1 from by omega, num_Eval.l0]
    have hj : j < l.length := by omega
    have hx : rd l (j : Int) = l[j] := by simp [rd, List.getD, hj]
    rw [if_pos (by omega), if_pos (by omega), if_pos (by omega), hx, cut_in (hin _ (List.getElem_mem hj))]
    simp only [Option.bind_some, if_true]
    rw [w64 _ (by omega) (by omega), show (j : Int) + 1 = ((j + 1 : Nat) : Int) from by omega]
    exact ih k (j + 1) (by omega)

/-- Eval, its arguments right: what follows the check. -/
theorem Eval_f {op first i n many : Int} (hrow : num_row.f 20 op = some (first, i, n, true)) (hargs : num_Args.f 20 op = some (many, true)) (l : List Int) (hlen : (l.length : Int) = many) (hl : l.length ≤ 1000)
    (hin : ∀ x ∈ l, In x n) (k : Nat) : num_Eval.f (k + l.length + 22) op l = num_Eval.l0 (k + 21) l first i n l (l.length : Int) (l.length : Int) := by
  unfold num_Eval.f
  rw [row_k hrow _ (by omega), args_k hargs _ (by omega)]
  simp only [Option.bind_some, if_true]
  rw [show ((l.length : Int) != many) = false from by rw [hlen]; simp, show k + l.length + 22 = (k + 21 + l.length) + 1 from by omega, num_Eval.j0, if_neg (by decide)]
  exact Eval_l0 l first i n hin hl l.length (k + 21) 0 (by omega)

/-- A value with its sign. -/
def sg (x n : Int) : Int := if n = 32 then wrap32 x else wrap64 x
theorem signed_f {x n : Int} (h : In x n) : num_signed.f x n = some (sg x n) := by
  obtain ⟨h0, h1, h2⟩ := h
  unfold num_signed.f sg
  by_cases hn : n = 32
  · have := h2 hn
    rw [if_pos hn, if_pos hn, w64 _ (by unfold wrap32; omega) (by unfold wrap32; omega), Int.emod_eq_of_lt h0 this]
  · rw [if_neg hn, if_neg hn]
/-- The i-th comparison. -/
def cmp (i x y n : Int) : Bool :=
  if i = 0 then x == y else if i = 1 then x != y else if i = 2 then decide (sg x n < sg y n) else if i = 3 then decide (x < y) else if i = 4 then decide (sg x n > sg y n) else if i = 5 then decide (x > y)
  else if i = 6 then decide (sg x n ≤ sg y n) else if i = 7 then decide (x ≤ y) else if i = 8 then decide (sg x n ≥ sg y n) else decide (x ≥ y)
theorem compare_f {i x y n : Int} (hx : In x n) (hy : In y n) : num_compare.f i x y n = some (cmp i x y n) := by
  unfold num_compare.f cmp
  rw [signed_f hx, signed_f hy]
  simp only [Option.bind_some]
  repeat' split
  all_goals rfl
def bit (b : Bool) : Int := if b = true then 1 else 0
theorem bit_f (b : Bool) : num_bit.f b = some (bit b) := by unfold num_bit.f bit; split <;> rfl

/-- A comparison, through Eval. -/
theorem Eval_cmp {op i n x y : Int} (hrow : num_row.f 20 op = some (70, i, n, true)) (hargs : num_Args.f 20 op = some (2, true)) (hx : In x n) (hy : In y n) (k : Nat) (hk : 24 ≤ k) :
    num_Eval.f k op [x, y] = some (bit (cmp i x y n), 0, none) := by
  obtain ⟨k, rfl⟩ : ∃ j, k = j + 2 + 22 := ⟨k - 24, by omega⟩
  have := Eval_f hrow hargs [x, y] rfl (by simp) (fun z hz => by simp at hz; rcases hz with rfl | rfl <;> assumption) k
  rw [show [x, y].length = 2 from rfl] at this
  rw [this, show k + 21 = (k + 20) + 1 from rfl, num_Eval.l0]
  rw [if_neg (by omega), if_pos (by simp), if_neg (by decide), if_pos rfl, if_pos (by simp)]
  rw [show rd [x, y] 0 = x from rfl, show rd [x, y] 1 = y from rfl, compare_f hx hy]
  simp only [Option.bind_some]
  rw [bit_f]
  rfl

/-- An operation of the great row, through Eval. -/
theorem Eval_two {op i n x y v tr : Int} (hrow : num_row.f 20 op = some (106, i, n, true)) (hargs : num_Args.f 20 op = some (2, true)) (hx : In x n) (hy : In y n) (k : Nat) (hk : 40 ≤ k)
    (htwo : ∀ k, 15 ≤ k → num_two.f k i x y n = some (v, tr)) (h0 : 0 ≤ v) (h1 : v < 18446744073709551616) :
    num_Eval.f k op [x, y] = some (cutN v n, tr, none) := by
  obtain ⟨k, rfl⟩ : ∃ j, k = j + 2 + 22 := ⟨k - 24, by omega⟩
  have := Eval_f hrow hargs [x, y] rfl (by simp) (fun z hz => by simp at hz; rcases hz with rfl | rfl <;> assumption) k
  rw [show [x, y].length = 2 from rfl] at this
  rw [this, show k + 21 = (k + 20) + 1 from rfl, num_Eval.l0]
  rw [if_neg (by omega), if_pos (by simp), if_neg (by decide), if_neg (by decide), if_neg (by decide), if_pos rfl, if_pos (by simp)]
  rw [show rd [x, y] 0 = x from rfl, show rd [x, y] 1 = y from rfl, htwo _ (by omega)]
  simp only [Option.bind_some]
  rw [cut_f h0 h1]
  rfl

/-! ### operations of the great row -/
theorem and_or_add (a b : Nat) : (a &&& b) + (a ||| b) = a + b := by
  induction a using Nat.strongRecOn generalizing b with
  | ind a ih =>
    by_cases h : a = 0
    · subst h; simp
    · have := ih (a / 2) (by omega) (b / 2)
      have e1 : (a &&& b) = 2 * (a / 2 &&& b / 2) + (a % 2 &&& b % 2) := by
        have h1 := Nat.div_add_mod (a &&& b) 2
        rw [Nat.and_div_two, Nat.and_mod_two_pow (n := 1)] at h1
        simp only [Nat.pow_one] at h1
        omega
      have e2 : (a ||| b) = 2 * (a / 2 ||| b / 2) + (a % 2 ||| b % 2) := by
        have h1 := Nat.div_add_mod (a ||| b) 2
        rw [Nat.or_div_two, Nat.or_mod_two_pow (n := 1)] at h1
        simp only [Nat.pow_one] at h1
        omega
      have h3 : (a % 2 &&& b % 2) + (a % 2 ||| b % 2) = a % 2 + b % 2 := by
        rcases Nat.mod_two_eq_zero_or_one a with h | h <;> rcases Nat.mod_two_eq_zero_or_one b with h' | h' <;> rw [h, h'] <;> rfl
      omega
theorem and_xor_or (a b : Nat) : (a &&& b) + (a ^^^ b) = (a ||| b) := by
  induction a using Nat.strongRecOn generalizing b with
  | ind a ih =>
    by_cases h : a = 0
    · subst h; simp
    · have := ih (a / 2) (by omega) (b / 2)
      have e1 : (a &&& b) = 2 * (a / 2 &&& b / 2) + (a % 2 &&& b % 2) := by
        have h1 := Nat.div_add_mod (a &&& b) 2
        rw [Nat.and_div_two, Nat.and_mod_two_pow (n := 1)] at h1
        simp only [Nat.pow_one] at h1
        omega
      have e2 : (a ||| b) = 2 * (a / 2 ||| b / 2) + (a % 2 ||| b % 2) := by
        have h1 := Nat.div_add_mod (a ||| b) 2
        rw [Nat.or_div_two, Nat.or_mod_two_pow (n := 1)] at h1
        simp only [Nat.pow_one] at h1
        omega
      have e3 : (a ^^^ b) = 2 * (a / 2 ^^^ b / 2) + (a % 2 ^^^ b % 2) := by
        have h1 := Nat.div_add_mod (a ^^^ b) 2
        rw [Nat.xor_div_two, Nat.xor_mod_two_pow (n := 1)] at h1
        simp only [Nat.pow_one] at h1
        omega
      have h3 : (a % 2 &&& b % 2) + (a % 2 ^^^ b % 2) = (a % 2 ||| b % 2) := by
        rcases Nat.mod_two_eq_zero_or_one a with h | h <;> rcases Nat.mod_two_eq_zero_or_one b with h' | h' <;> rw [h, h'] <;> rfl
      omega

theorem two_plain {x y n : Int} (hn : n = 32 ∨ n = 64) (hx : In x n) (hy : In y n) (k : Nat) (hk : 4 ≤ k) :
    num_two.f k 0 x y n = some ((x + y) % 18446744073709551616, 0) ∧ num_two.f k 1 x y n = some ((x - y) % 18446744073709551616, 0) ∧ num_two.f k 2 x y n = some ((x * y) % 18446744073709551616, 0) := by
  have hw : ¬ IntKind.u64.wrap n = 0 := by rw [wu64]; omega
  refine ⟨?_, ?_, ?_⟩
  · unfold num_two.f; rw [if_neg hw, if_pos rfl, wu64]
  · unfold num_two.f; rw [if_neg hw, if_neg (by decide), if_pos rfl, wu64]
  · unfold num_two.f; rw [if_neg hw, if_neg (by decide), if_neg (by decide), if_pos rfl, wu64]

/-- Which way the operations from 7 on go. -/
theorem two_high {i x y n : Int} (hn : n = 32 ∨ n = 64) (hx : In x n) (hy : In y n) (hi : 7 ≤ i) (k : Nat) :
    num_two.f (k + 1) i x y n = num_two.j0 (k + 1) i x y n (y % n) i false := by
  have hw : ¬ IntKind.u64.wrap n = 0 := by rw [wu64]; omega
  have hy0 := hy.1
  have e : wrap64 (Int.tmod y (IntKind.u64.wrap n)) = y % n := by
    rw [wu64, Int.tmod_eq_emod_of_nonneg hy0]
    rcases hn with rfl | rfl
    · rw [show (32 : Int) % 18446744073709551616 = 32 from rfl, w64 _ (by omega) (by omega)]
    · rw [show (64 : Int) % 18446744073709551616 = 64 from rfl, w64 _ (by omega) (by omega)]
  unfold num_two.f
  rw [if_neg hw, if_neg (by omega), if_neg (by omega), if_neg (by omega), if_neg (by omega), if_neg (by omega), if_neg (by omega), e]
  rw [show (i == 6) = false from by rw [beq_eq_false_iff_ne]; omega]

theorem two_and {x y n : Int} (hn : n = 32 ∨ n = 64) (hx : In x n) (hy : In y n) (k : Nat) (hk : 4 ≤ k) :
    num_two.f k 7 x y n = some (((x.toNat &&& y.toNat : Nat) : Int), 0) ∧ num_two.f k 8 x y n = some (((x.toNat ||| y.toNat : Nat) : Int), 0) ∧ num_two.f k 9 x y n = some (((x.toNat ^^^ y.toNat : Nat) : Int), 0) := by
  obtain ⟨k, rfl⟩ : ∃ j, k = j + 1 := ⟨k - 1, by omega⟩
  have hx' := hx
  have hy' := hy
  obtain ⟨x0, x1, _⟩ := hx'
  obtain ⟨y0, y1, _⟩ := hy'
  obtain ⟨a, rfl⟩ := Int.eq_ofNat_of_zero_le x0
  obtain ⟨b, rfl⟩ := Int.eq_ofNat_of_zero_le y0
  refine ⟨?_, ?_, ?_⟩
  · rw [two_high hn hx hy (by omega), num_two.j0, if_neg (by decide), if_pos rfl, (nat64 a b (by omega) (by omega)).1]; rfl
  · rw [two_high hn hx hy (by omega), num_two.j0, if_neg (by decide), if_neg (by decide), if_pos rfl, (nat64 a b (by omega) (by omega)).2]; rfl
  · rw [two_high hn hx hy (by omega), num_two.j0, if_neg (by decide), if_neg (by decide), if_neg (by decide), if_pos rfl, bits_xor_nat a b (by omega) (by omega)]; rfl

theorem two_shl {x y n : Int} (hn : n = 32 ∨ n = 64) (hx : In x n) (hy : In y n) (k : Nat) (hk : 4 ≤ k) :
    num_two.f k 10 x y n = some ((x * 2 ^ (y % n).toNat) % 18446744073709551616, 0) := by
  obtain ⟨k, rfl⟩ : ∃ j, k = j + 1 := ⟨k - 1, by omega⟩
  have hr : 0 ≤ y % n ∧ y % n < 64 := by rcases hn with rfl | rfl <;> omega
  rw [two_high hn hx hy (by omega), num_two.j0, if_neg (by decide), if_neg (by decide), if_neg (by decide), if_neg (by decide), if_pos rfl, if_pos hr.1]
  unfold shl
  rw [show min (y % n).toNat (IntKind.bits .u64) = (y % n).toNat from by simp [IntKind.bits]; omega, wu64]

/-! ### every operation answers something -/
theorem row_out (op : Int) (h : op < 60 ∨ 199 < op) : num_row.f 20 op = some (0, 0, 0, false) := by
  have h5 : num_row.j5 15 op false = some (0, 0, 0, false) := by
    simp only [num_row.j5, Bool.false_eq_true, if_false]
    rw [if_neg (by omega), if_neg (by omega), if_neg (by omega)]
  have d : ∀ (a b : Int), 60 ≤ a → b < 199 → (if op ≥ a then decide (op ≤ b) else false) = false := by
    intro a b ha hb
    split
    · simp; omega
    · rfl
  have d' : ∀ (a b : Int), 60 ≤ a → b < 199 → (if op ≥ a then decide (op < b) else false) = false := by
    intro a b ha hb
    split
    · simp; omega
    · rfl
  have push : ∀ {α : Type} (c : Prop) [Decidable c] (f : Bool → α) (x y : Bool), (if c then f x else f y) = f (if c then x else y) := by
    intro α c _ f x y
    split <;> rfl
  unfold num_row.f
  rw [if_neg (by omega), if_neg (by omega), push (op ≥ 70) (num_row.j0 20 op), d' 70 80 (by omega) (by omega)]
  simp only [num_row.j0, Bool.false_eq_true, if_false]
  rw [push (op ≥ 81) (num_row.j1 19 op), d 81 90 (by omega) (by omega)]
  simp only [num_row.j1, Bool.false_eq_true, if_false]
  rw [push (op ≥ 103) (num_row.j2 18 op), d' 103 106 (by omega) (by omega)]
  simp only [num_row.j2, Bool.false_eq_true, if_false]
  rw [push (op ≥ 121) (num_row.j3 17 op), d' 121 124 (by omega) (by omega)]
  simp only [num_row.j3, Bool.false_eq_true, if_false]
  rw [push (op ≥ 106) (num_row.j4 16 op), d' 106 121 (by omega) (by omega)]
  simp only [num_row.j4, Bool.false_eq_true, if_false]
  rw [push (op ≥ 124) (num_row.j5 15 op), d 124 138 (by omega) (by omega), h5]

/-- What an operation of the table is. -/
def okRow : Option (Int × Int × Int × Bool) → Option (Int × Bool) → Bool
  | some (f, i, n, b), some (m, c) => (!b) || (b && c && (n == 32 || n == 64) && decide (0 ≤ i) && decide (i ≤ 14) && ((f == 70 && m == 2) || (f == 106 && m == 2) || (f == 103 && m == 1) || ((f == 69 || f == 167 || f == 172) && m == 1)))
  | _, _ => false
theorem row_in : ∀ i : Fin 140, okRow (num_row.f 20 ((60 + i.val : Nat) : Int)) (num_Args.f 20 ((60 + i.val : Nat) : Int)) = true := by decide +kernel
theorem row_any (op : Int) : ∃ f i n b m c, num_row.f 20 op = some (f, i, n, b) ∧ num_Args.f 20 op = some (m, c) ∧
    (b = false ∨ (b = true ∧ c = true ∧ (n = 32 ∨ n = 64) ∧ 0 ≤ i ∧ i ≤ 14 ∧ ((f = 70 ∧ m = 2) ∨ (f = 106 ∧ m = 2) ∨ (f = 103 ∧ m = 1) ∨ ((f = 69 ∨ f = 167 ∨ f = 172) ∧ m = 1)))) := by
  by_cases h : op < 60 ∨ 199 < op
  · refine ⟨0, 0, 0, false, 0, false, row_out op h, ?_, .inl rfl⟩
    unfold num_Args.f
    rw [row_out op h]
    rfl
  · have := row_in ⟨(op - 60).toNat, by omega⟩
    rw [show ((60 + (op - 60).toNat : Nat) : Int) = op from by omega] at this
    cases h1 : num_row.f 20 op with
    | none => rw [h1] at this; simp [okRow] at this
    | some r =>
      cases h2 : num_Args.f 20 op with
      | none => rw [h1, h2] at this; simp [okRow] at this
      | some q =>
        obtain ⟨f, i, n, b⟩ := r
        obtain ⟨m, c⟩ := q
        rw [h1, h2] at this
        refine ⟨f, i, n, b, m, c, rfl, rfl, ?_⟩
        simp only [okRow, Bool.or_eq_true, Bool.and_eq_true, Bool.not_eq_true', beq_iff_eq, decide_eq_true_eq] at this
        rcases this with h | ⟨⟨⟨⟨⟨h, hc⟩, hn⟩, hi⟩, hi'⟩, hf⟩
        · exact .inl h
        · refine .inr ⟨h, hc, hn, hi, hi', ?_⟩
          rcases hf with ((hf | hf) | hf) | hf
          · exact .inl hf
          · exact .inr (.inl hf)
          · exact .inr (.inr (.inl hf))
          · exact .inr (.inr (.inr ⟨by rcases hf.1 with (h | h) | h <;> simp [h], hf.2⟩))

theorem len_some (k : Nat) (a : Int) (h0 : 0 ≤ a) (h1 : a < 18446744073709551616) (hk : 2 ≤ k) : ∃ r, bits_Len64.f k a = some r := by
  obtain ⟨k, rfl⟩ : ∃ j, k = j + 1 := ⟨k - 1, by omega⟩
  have j0 : ∀ x y : Int, 0 ≤ x → x < 4294967296 → ∃ r, bits_Len64.j0 (k + 1) x y = some r := by
    intro x y hx hx1
    rw [bits_Len64.j0]
    repeat' split
    all_goals first | exact ⟨_, rfl⟩ | (exfalso; omega)
  unfold bits_Len64.f
  split
  · exact j0 _ _ (by omega) (by omega)
  · exact j0 _ _ (by omega) (by omega)
theorem count_some (k : Nat) (i a n : Int) (h0 : 0 ≤ a) (h1 : a < 18446744073709551616) (hk : 2 ≤ k) : ∃ r, num_count.f k i a n = some r := by
  unfold num_count.f
  split
  · obtain ⟨r, hr⟩ := len_some k a h0 h1 hk
    exact ⟨_, by unfold bits_LeadingZeros64.f; rw [hr]; rfl⟩
  · split
    · exact ⟨_, by unfold bits_TrailingZeros64.f; rw [if_pos ⟨h0, h1⟩]; rfl⟩
    · exact ⟨_, by unfold bits_OnesCount64.f; rfl⟩

theorem rot64_some (a b : Int) : ∃ r, bits_RotateLeft64.f a b = some r := by
  have hb : 0 ≤ IntKind.u64.wrap b ∧ IntKind.u64.wrap b < 18446744073709551616 := by rw [wu64]; omega
  unfold bits_RotateLeft64.f
  obtain ⟨c, hc⟩ := Int.eq_ofNat_of_zero_le hb.1
  rw [hc]
  have h63 : Go.bits .and .u64 (c : Int) 63 = ((c % 64 : Nat) : Int) := by
    have := (nat64 c 63 (by omega) (by decide)).1
    rw [show ((63 : Nat) : Int) = 63 from rfl] at this
    rw [this, show 63 = 2 ^ 6 - 1 from rfl, Nat.and_two_pow_sub_one_eq_mod]
  rw [h63, if_pos (by omega), if_pos (by rw [wu64]; omega)]
  exact ⟨_, rfl⟩
theorem rot32_some (a b : Int) : ∃ r, bits_RotateLeft32.f a b = some r := by
  have hb : 0 ≤ IntKind.u64.wrap b ∧ IntKind.u64.wrap b < 18446744073709551616 := by rw [wu64]; omega
  unfold bits_RotateLeft32.f
  obtain ⟨c, hc⟩ := Int.eq_ofNat_of_zero_le hb.1
  rw [hc]
  have h31 : Go.bits .and .u64 (c : Int) 31 = ((c % 32 : Nat) : Int) := by
    have := (nat64 c 31 (by omega) (by decide)).1
    rw [show ((31 : Nat) : Int) = 31 from rfl] at this
    rw [this, show 31 = 2 ^ 5 - 1 from rfl, Nat.and_two_pow_sub_one_eq_mod]
  rw [h31, if_pos (by omega), if_pos (by rw [wu64]; omega)]
  exact ⟨_, rfl⟩
theorem turned_some (a b n : Int) : ∃ r, num_turned.f a b n = some r := by
  unfold num_turned.f
  split
  · obtain ⟨r, hr⟩ := rot32_some (a % 4294967296) b
    exact ⟨_, by rw [hr]; rfl⟩
  · obtain ⟨r, hr⟩ := rot64_some a b
    exact ⟨_, by rw [hr]; rfl⟩
theorem sg_zero {x n : Int} (h : In x n) (hn : n = 32 ∨ n = 64) : sg x n = 0 ↔ x = 0 := by
  obtain ⟨h0, h1, h2⟩ := h
  unfold sg
  rcases hn with rfl | rfl
  · have := h2 rfl
    rw [if_pos rfl]; unfold wrap32; omega
  · rw [if_neg (by decide)]; unfold wrap64; omega
theorem divided_some (k : Nat) (hk : 2 ≤ k) (i : Int) {x y n : Int} (hx : In x n) (hy : In y n) (hn : n = 32 ∨ n = 64) : ∃ r, num_divided.f k i x y n = some r := by
  obtain ⟨k, rfl⟩ : ∃ j, k = j + 1 + 1 := ⟨k - 2, by omega⟩
  unfold num_divided.f
  rw [signed_f hx, signed_f hy]
  simp only [Option.bind_some]
  by_cases h0 : y = 0
  · rw [if_pos h0]; exact ⟨_, rfl⟩
  rw [if_neg h0]
  have hs : ¬ sg y n = 0 := fun h => h0 ((sg_zero hy hn).1 h)
  have j1 : ∃ r, num_divided.j1 (k + 1) i x y (sg x n) (sg y n) = some r := by
    rw [num_divided.j1, if_neg hs, if_neg h0, if_neg hs, if_neg h0]
    repeat' split
    all_goals exact ⟨_, rfl⟩
  have j0 : ∀ b, ∃ r, num_divided.j0 (k + 1 + 1) i x y (sg x n) (sg y n) b = some r := by
    intro b
    rw [num_divided.j0]
    repeat' split
    all_goals first | exact ⟨_, rfl⟩ | exact j1
  have hp : 0 ≤ wrap64 (n - 1) := by rcases hn with rfl | rfl <;> (rw [w64 _ (by omega) (by omega)]; omega)
  repeat' split
  all_goals first | exact j0 _ | exact absurd hp (by assumption)
theorem two_some (k : Nat) (hk : 4 ≤ k) (i : Int) {x y n : Int} (hx : In x n) (hy : In y n) (hn : n = 32 ∨ n = 64) : ∃ v t, num_two.f k i x y n = some (v, t) := by
  obtain ⟨k, rfl⟩ : ∃ j, k = j + 1 := ⟨k - 1, by omega⟩
  have hw : ¬ IntKind.u64.wrap n = 0 := by rw [wu64]; omega
  have hy0 := hy.1
  have hm : 0 ≤ wrap64 (Int.tmod y (IntKind.u64.wrap n)) := by
    rw [wu64, Int.tmod_eq_emod_of_nonneg hy0]
    rcases hn with rfl | rfl
    · rw [show (32 : Int) % 18446744073709551616 = 32 from rfl, w64 _ (by omega) (by omega)]; omega
    · rw [show (64 : Int) % 18446744073709551616 = 64 from rfl, w64 _ (by omega) (by omega)]; omega
  have j0 : ∀ b q, ∃ v t, num_two.j0 (k + 1) i x y n (wrap64 (Int.tmod y (IntKind.u64.wrap n))) q b = some (v, t) := by
    intro b q
    generalize wrap64 (Int.tmod y (IntKind.u64.wrap n)) = by_ at hm
    rw [num_two.j0]
    obtain ⟨⟨d1, d2⟩, hd⟩ := divided_some k (by omega) (wrap64 (i - 3)) hx hy hn
    obtain ⟨t1, ht1⟩ := turned_some x by_ n
    obtain ⟨t2, ht2⟩ := turned_some x (wrap64 (-by_)) n
    rw [hd, ht1, ht2, signed_f hx]
    simp only [Option.bind_some]
    rw [if_pos hm, if_pos hm, if_pos hm]
    repeat' split
    all_goals exact ⟨_, _, rfl⟩
  unfold num_two.f
  rw [if_neg hw]
  repeat' split
  all_goals first | exact ⟨_, _, rfl⟩ | exact j0 _ _

/-- The check of the arguments, not all of them right. -/
theorem Eval_l0_bad (l : List Int) (first i n : Int) (hu : ∀ x ∈ l, 0 ≤ x ∧ x < 18446744073709551616) (hl : l.length ≤ 1000) (hbad : ∃ x ∈ l, cutN x n ≠ x) : ∀ (d k j : Nat), j + d = l.length → d < k → (∀ q, q < j → cutN (l.getD q 0) n = l.getD q 0) →
    num_Eval.l0 k l first i n l (l.length : Int) (j : Int) = some (0, 0, some 1) := by
  intro d
  induction d with
  | zero =>
    intro k j h hk hq
    obtain ⟨x, hx, hne⟩ := hbad
    obtain ⟨q, hql, rfl⟩ := List.getElem_of_mem hx
    have := hq q (by omega)
    rw [List.getD, List.getElem?_eq_getElem hql] at this
    exact absurd this hne
  | succ d ih =>
    intro k j h hk hq
    obtain ⟨k, rfl⟩ : ∃ m, k = m + 1 := ⟨k - 1, by omega⟩
    rw [num_Eval.l0]
    have hj : j < l.length := by omega
    have hx : rd l (j : Int) = l[j] := by simp [rd, List.getD, hj]
    have hu' := hu _ (List.getElem_mem hj)
    rw [if_pos (by omega), if_pos (by omega), if_pos (by omega), hx, cut_f hu'.1 hu'.2]
    simp only [Option.bind_some]
    by_cases hc : cutN l[j] n = l[j]
    · rw [if_pos hc, w64 _ (by omega) (by omega), show (j : Int) + 1 = ((j + 1 : Nat) : Int) from by omega]
      refine ih k (j + 1) (by omega) (by omega) (fun q hq' => ?_)
      rcases Nat.lt_or_ge q j with h1 | h1
      · exact hq q h1
      · obtain rfl : q = j := by omega
        rw [List.getD, List.getElem?_eq_getElem hj]; exact hc
    · rw [if_neg hc]

theorem in_of_cut {x n : Int} (h0 : 0 ≤ x) (h1 : x < 18446744073709551616) (h : cutN x n = x) : In x n := by
  refine ⟨h0, h1, fun hn => ?_⟩
  unfold cutN at h
  rw [if_pos hn] at h
  omega

/-- EVERY CALL OF Eval ANSWERS. -/
theorem Eval_some (op : Int) (l : List Int) (hu : ∀ x ∈ l, 0 ≤ x ∧ x < 18446744073709551616) (hl : l.length ≤ 1000) (k : Nat) (hk : l.length + 60 ≤ k) : ∃ r, num_Eval.f k op l = some r := by
  obtain ⟨f, i, n, b, m, c, hr, ha, hcase⟩ := row_any op
  rcases hcase with rfl | ⟨rfl, rfl, hn, hi0, hi1, hf⟩
  · unfold num_Eval.f
    rw [row_k hr _ (by omega), args_k ha _ (by omega)]
    simp only [Option.bind_some]
    rw [if_neg (by decide)]
    obtain ⟨k, rfl⟩ : ∃ j, k = j + 1 := ⟨k - 1, by omega⟩
    rw [num_Eval.j0, if_pos rfl]
    exact ⟨_, rfl⟩
  · by_cases hlen : (l.length : Int) = m
    · by_cases hgood : ∀ x ∈ l, cutN x n = x
      · have hin : ∀ x ∈ l, In x n := fun x hx => in_of_cut (hu x hx).1 (hu x hx).2 (hgood x hx)
        obtain ⟨k, rfl⟩ : ∃ j, k = j + l.length + 22 := ⟨k - l.length - 22, by omega⟩
        rw [Eval_f hr ha l hlen hl hin k, show k + 21 = (k + 20) + 1 from rfl, num_Eval.l0, if_neg (by omega)]
        have h0 : In (rd l 0) n := by
          have : 0 < l.length := by rcases hf with ⟨_, rfl⟩ | ⟨_, rfl⟩ | ⟨_, rfl⟩ | ⟨_, rfl⟩ <;> omega
          have e : rd l 0 = l[0] := by simp [rd, List.getD, this]
          rw [e]; exact hin _ (List.getElem_mem this)
        have h1 : m = 2 → In (rd l 1) n := fun hm => by
          have : 1 < l.length := by omega
          have e : rd l 1 = l[1] := by simp [rd, List.getD, this]
          rw [e]; exact hin _ (List.getElem_mem this)
        rw [if_pos (by rcases hf with ⟨_, rfl⟩ | ⟨_, rfl⟩ | ⟨_, rfl⟩ | ⟨_, rfl⟩ <;> omega)]
        rcases hf with ⟨rfl, rfl⟩ | ⟨rfl, rfl⟩ | ⟨rfl, rfl⟩ | ⟨hf, rfl⟩
        · rw [if_neg (by decide), if_pos rfl, if_pos (by omega), compare_f h0 (h1 rfl)]
          simp only [Option.bind_some]
          rw [bit_f]; exact ⟨_, rfl⟩
        · rw [if_neg (by decide), if_neg (by decide), if_neg (by decide), if_pos rfl, if_pos (by omega)]
          obtain ⟨v, t, hv⟩ := two_some (k + 20) (by omega) i h0 (h1 rfl) hn
          rw [hv]
          simp only [Option.bind_some]
          unfold num_cut.f
          split <;> exact ⟨_, rfl⟩
        · rw [if_neg (by decide), if_neg (by decide), if_pos rfl]
          obtain ⟨r, hr⟩ := count_some (k + 20) i (rd l 0) n h0.1 h0.2.1 (by omega)
          rw [hr]; exact ⟨_, rfl⟩
        · rcases hf with rfl | rfl | rfl
          · rw [if_pos rfl, bit_f]; exact ⟨_, rfl⟩
          · rw [if_neg (by decide), if_neg (by decide), if_neg (by decide), if_neg (by decide), if_pos rfl]
            unfold num_cut.f
            rw [if_pos rfl]; exact ⟨_, rfl⟩
          · rw [if_neg (by decide), if_neg (by decide), if_neg (by decide), if_neg (by decide), if_neg (by decide)]
            unfold num_signed.f
            rw [if_pos rfl]
            split <;> exact ⟨_, rfl⟩
      · have hbad : ∃ x ∈ l, cutN x n ≠ x := Classical.byContradiction fun h => hgood fun x hx => Classical.byContradiction fun h' => h ⟨x, hx, h'⟩
        unfold num_Eval.f
        rw [row_k hr _ (by omega), args_k ha _ (by omega)]
        simp only [Option.bind_some, if_true]
        obtain ⟨k, rfl⟩ : ∃ j, k = j + 1 := ⟨k - 1, by omega⟩
        rw [show ((l.length : Int) != m) = false from by rw [hlen]; simp, num_Eval.j0, if_neg (by decide)]
        exact ⟨_, Eval_l0_bad l f i n hu hl hbad l.length k 0 (by omega) (by omega) (fun q hq => by omega)⟩
    · unfold num_Eval.f
      rw [row_k hr _ (by omega), args_k ha _ (by omega)]
      simp only [Option.bind_some, if_true]
      obtain ⟨k, rfl⟩ : ∃ j, k = j + 1 := ⟨k - 1, by omega⟩
      rw [show ((l.length : Int) != m) = true from by rw [bne_iff_ne]; exact hlen, num_Eval.j0, if_pos rfl]
      exact ⟨_, rfl⟩

end Go.Proofs.YtgplakhkofchiaaDoor.QNumStays
