/- What the printed functions of num answer, said in plain words: which row of the table, the arguments' check, a comparison, an operation of the great row. -/
import Derived.Test.YtgplakhkofchiaaDoorRNumEvalsx9
import Derived.OpenShut
set_option linter.unusedVariables false
set_option linter.unusedSimpArgs false
namespace Go.Proofs.YtgplakhkofchiaaDoor.QNumEvals
open Go.RowKit Go.Proofs.YtgplakhkofchiaaDoor.Man Go.Proofs.YtgplakhkofchiaaDoor.RNumEvals Go.Proofs.YtgplakhkofchiaaDoorW.PrintWords Go.Proofs.YtgplakhkofchiaaDoorW.PrintLast Go.Proofs.YtgplakhkofchiaaDoorW.PrintMore

theorem up_f (k : Nat) (hk : 20 ≤ k) : grommetlaw03_up.f k = some true := by
  have h : grommetlaw03_up.f 20 = some true := by decide +kernel
  exact at_rounds (g := fun k => grommetlaw03_up.f k) (grommetlaw03_up.mono) hk h

theorem wu64 (n : Int) : IntKind.u64.wrap n = n % 18446744073709551616 := by
  simp only [IntKind.wrap, IntKind.bits, IntKind.signed]; simp
theorem w64 (n : Int) (h0 : -9223372036854775808 ≤ n) (h1 : n < 9223372036854775808) : wrap64 n = n := by unfold wrap64; omega
theorem nat64 (a b : Nat) (ha : a < 18446744073709551616) (hb : b < 18446744073709551616) : Go.bits .and .u64 (a : Int) (b : Int) = ((a &&& b : Nat) : Int) ∧ Go.bits .or .u64 (a : Int) (b : Int) = ((a ||| b : Nat) : Int) :=
  bits_nat .u64 64 (by decide) (fun n h0 h => by rw [wu64]; omega) a b (by omega) (by omega)
theorem and32 (a : Nat) (ha : a < 18446744073709551616) : Go.bits .and .u64 (a : Int) 4294967295 = ((a % 4294967296 : Nat) : Int) := by
  have := (nat64 a 4294967295 ha (by decide)).1
  rw [show ((4294967295 : Nat) : Int) = 4294967295 from rfl] at this
  rw [this, show 4294967295 = 2 ^ 32 - 1 from rfl, Nat.and_two_pow_sub_one_eq_mod]

theorem bits_xor_nat (a b : Nat) (ha : a < 18446744073709551616) (hb : b < 18446744073709551616) : Go.bits .xor .u64 (a : Int) (b : Int) = ((a ^^^ b : Nat) : Int) := by
  have hx : a ^^^ b < 2 ^ 64 := Nat.xor_lt_two_pow (by omega) (by omega)
  have h1 : (BitVec.ofInt 64 (a : Int)).toNat = a := by rw [BitVec.ofInt_natCast, BitVec.toNat_ofNat]; exact Nat.mod_eq_of_lt (by omega)
  have h2 : (BitVec.ofInt 64 (b : Int)).toNat = b := by rw [BitVec.ofInt_natCast, BitVec.toNat_ofNat]; exact Nat.mod_eq_of_lt (by omega)
  show IntKind.u64.wrap ((BitVec.ofInt 64 (a : Int) ^^^ BitVec.ofInt 64 (b : Int)).toNat : Int) = _
  rw [BitVec.toNat_xor, h1, h2, wu64]; omega

/-- A value of n bits, n 32 or 64. -/
def In (x : Int) (n : Int) : Prop := 0 ≤ x ∧ x < 18446744073709551616 ∧ (n = 32 → x < 4294967296)
theorem cut_in {x n : Int} (h : In x n) : num_cut.f x n = some x := by
  obtain ⟨h0, h1, h2⟩ := h
  unfold num_cut.f
  by_cases hn : n = 32
  · obtain ⟨a, rfl⟩ := Int.eq_ofNat_of_zero_le h0
    have := h2 hn
    rw [if_pos hn, and32 a (by omega)]
    congr 1; omega
  · rw [if_neg hn]
/-- What is cut to n bits. -/
def cutN (v n : Int) : Int := if n = 32 then v % 4294967296 else v
theorem cut_f {v n : Int} (h0 : 0 ≤ v) (h1 : v < 18446744073709551616) : num_cut.f v n = some (cutN v n) := by
  unfold num_cut.f cutN
  obtain ⟨a, rfl⟩ := Int.eq_ofNat_of_zero_le h0
  by_cases hn : n = 32
  · rw [if_pos hn, if_pos hn, and32 a (by omega)]
    congr 1
  · rw [if_neg hn, if_neg hn]

theorem row_k {op : Int} {r : Int × Int × Int × Bool} (h : num_row.f 20 op = some r) (k : Nat) (hk : 20 ≤ k) : num_row.f k op = some r :=
  at_rounds (g := fun k => num_row.f k op) (num_row.mono op) hk h
theorem args_k {op : Int} {r : Int × Bool} (h : num_Args.f 20 op = some r) (k : Nat) (hk : 20 ≤ k) : num_Args.f k op = some r :=
  at_rounds (g := fun k => num_Args.f k op) (num_Args.mono op) hk h

/-- The arguments' check, all of them right. -/
theorem Eval_l0 (l : List Int) (first i n : Int) (hin : ∀ x ∈ l, In x n) (hl : l.length ≤ 1000) : ∀ (d k j : Nat), j + d = l.length →
    num_Eval.l0 (k + d) l first i n l (l.length : Int) (j : Int) = num_Eval.l0 k l first i n l (l.length : Int) (l.length : Int) := by
  intro d
  induction d with
  | zero => intro k j h; obtain rfl : j = l.length := by omega
            rfl
  | succ d ih =>
    intro k j h
    rw [show k + (d + 1) = (k + d) + 1 from by omega, num_Eval.l0]
    have hj : j < l.length := by omega
    have hx : rd l (j : Int) = l[j] := by simp [rd, List.getD, hj]
    rw [if_pos (by omega), if_pos (by omega), if_pos (by omega), hx, cut_in (hin _ (List.getElem_mem hj))]
    simp only [Option.bind_some, if_true]
    rw [w64 _ (by omega) (by omega), show (j : Int) + 1 = ((j + 1 : Nat) : Int) from by omega]
    exact ih k (j + 1) (by omega)

/-- Eval, its arguments right: what follows the check. -/
theorem Eval_f {op first i n many : Int} (hrow : num_row.f 20 op = some (first, i, n, true)) (hargs : num_Args.f 20 op = some (many, true)) (l : List Int) (hlen : (l.length : Int) = many) (hl : l.length ≤ 1000)
    (hin : ∀ x ∈ l, In x n) (k : Nat) : num_Eval.f (k + l.length + 22) op l = num_Eval.l0 (k + 21) l first i n l (l.length : Int) (l.length : Int) := by
  unfold num_Eval.f
  rw [row_k hrow _ (by omega), args_k hargs _ (by omega)]
  simp only [Option.bind_some, if_true]
  rw [show ((l.length : Int) != many) = false from by rw [hlen]; simp, show k + l.length + 22 = (k + 21 + l.length) + 1 from by omega, num_Eval.j0, if_neg (by decide)]
  exact Eval_l0 l first i n hin hl l.length (k + 21) 0 (by omega)

/-- A value with its sign. -/
def sg (x n : Int) : Int := if n = 32 then wrap32 x else wrap64 x
theorem signed_f {x n : Int} (h : In x n) : num_signed.f x n = some (sg x n) := by
  obtain ⟨h0, h1, h2⟩ := h
  unfold num_signed.f sg
  by_cases hn : n = 32
  · have := h2 hn
    rw [if_pos hn, if_pos hn, w64 _ (by unfold wrap32; omega) (by unfold wrap32; omega), Int.emod_eq_of_lt h0 this]
  · rw [if_neg hn, if_neg hn]
/-- The i-th comparison. -/
def cmp (i x y n : Int) : Bool :=
  if i = 0 then x == y else if i = 1 then x != y else if i = 2 then decide (sg x n < sg y n) else if i = 3 then decide (x < y) else if i = 4 then decide (sg x n > sg y n) else if i = 5 then decide (x > y)
  else if i = 6 then decide (sg x n ≤ sg y n) else if i = 7 then decide (x ≤ y) else if i = 8 then decide (sg x n ≥ sg y n) else decide (x ≥ y)
theorem compare_f {i x y n : Int} (hx : In x n) (hy : In y n) : num_compare.f i x y n = some (cmp i x y n) := by
  unfold num_compare.f cmp
  rw [signed_f hx, signed_f hy]
  simp only [Option.bind_some]
  repeat' split
  all_goals rfl
def bit (b : Bool) : Int := if b = true then 1 else 0
theorem bit_f (b : Bool) : num_bit.f b = some (bit b) := by unfold num_bit.f bit; split <;> rfl

/-- A comparison, through Eval. -/
theorem Eval_cmp {op i n x y : Int} (hrow : num_row.f 20 op = some (70, i, n, true)) (hargs : num_Args.f 20 op = some (2, true)) (hx : In x n) (hy : In y n) (k : Nat) (hk : 24 ≤ k) :
    num_Eval.f k op [x, y] = some (bit (cmp i x y n), 0, none) := by
  obtain ⟨k, rfl⟩ : ∃ j, k = j + 2 + 22 := ⟨k - 24, by omega⟩
  have := Eval_f hrow hargs [x, y] rfl (by simp) (fun z hz => by simp at hz; rcases hz with rfl | rfl <;> assumption) k
  rw [show [x, y].length = 2 from rfl] at this
  rw [this, show k + 21 = (k + 20) + 1 from rfl, num_Eval.l0]
  rw [if_neg (by omega), if_pos (by simp), if_neg (by decide), if_pos rfl, if_pos (by simp)]
  rw [show rd [x, y] 0 = x from rfl, show rd [x, y] 1 = y from rfl, compare_f hx hy]
  simp only [Option.bind_some]
  rw [bit_f]
  rfl

/-- An operation of the great row, through Eval. -/
theorem Eval_two {op i n x y v tr : Int} (hrow : num_row.f 20 op = some (106, i, n, true)) (hargs : num_Args.f 20 op = some (2, true)) (hx : In x n) (hy : In y n) (k : Nat) (hk : 40 ≤ k)
    (htwo : ∀ k, 15 ≤ k → num_two.f k i x y n = some (v, tr)) (h0 : 0 ≤ v) (h1 : v < 18446744073709551616) :
    num_Eval.f k op [x, y] = some (cutN v n, tr, none) := by
  obtain ⟨k, rfl⟩ : ∃ j, k = j + 2 + 22 := ⟨k - 24, by omega⟩
  have := Eval_f hrow hargs [x, y] rfl (by simp) (fun z hz => by simp at hz; rcases hz with rfl | rfl <;> assumption) k
  rw [show [x, y].length = 2 from rfl] at this
  rw [this, show k + 21 = (k + 20) + 1 from rfl, num_Eval.l0]
  rw [if_neg (by omega), if_pos (by simp), if_neg (by decide), if_neg (by decide), if_neg (by decide), if_pos rfl, if_pos (by simp)]
  rw [show rd [x, y] 0 = x from rfl, show rd [x, y] 1 = y from rfl, htwo _ (by omega)]
  simp only [Option.bind_some]
  rw [cut_f h0 h1]
  rfl

/-! ### operations of the great row -/
theorem and_or_add (a b : Nat) : (a &&& b) + (a ||| b) = a + b := by
  induction a using Nat.strongRecOn generalizing b with
  | ind a ih =>
    by_cases h : a = 0
    · subst h; simp
    · have := ih (a / 2) (by omega) (b / 2)
      have e1 : (a &&& b) = 2 * (a / 2 &&& b / 2) + (a % 2 &&& b % 2) := by
        have h1 := Nat.div_add_mod (a &&& b) 2
        rw [Nat.and_div_two, Nat.and_mod_two_pow (n := 1)] at h1
        simp only [Nat.pow_one] at h1
        omega
      have e2 : (a ||| b) = 2 * (a / 2 ||| b / 2) + (a % 2 ||| b % 2) := by
        have h1 := Nat.div_add_mod (a ||| b) 2
        rw [Nat.or_div_two, Nat.or_mod_two_pow (n := 1)] at h1
        simp only [Nat.pow_one] at h1
        omega
      have h3 : (a % 2 &&& b % 2) + (a % 2 ||| b % 2) = a % 2 + b % 2 := by
        rcases Nat.mod_two_eq_zero_or_one a with h | h <;> rcases Nat.mod_two_eq_zero_or_one b with h' | h' <;> rw [h, h'] <;> rfl
      omega
theorem and_xor_or (a b : Nat) : (a &&& b) + (a ^^^ b) = (a ||| b) := by
  induction a using Nat.strongRecOn generalizing b with
  | ind a ih =>
    by_cases h : a = 0
    · subst h; simp
    · have := ih (a / 2) (by omega) (b / 2)
      have e1 : (a &&& b) = 2 * (a / 2 &&& b / 2) + (a % 2 &&& b % 2) := by
        have h1 := Nat.div_add_mod (a &&& b) 2
        rw [Nat.and_div_two, Nat.and_mod_two_pow (n := 1)] at h1
        simp only [Nat.pow_one] at h1
        omega
      have e2 : (a ||| b) = 2 * (a / 2 ||| b / 2) + (a % 2 ||| b % 2) := by
        have h1 := Nat.div_add_mod (a ||| b) 2
        rw [Nat.or_div_two, Nat.or_mod_two_pow (n := 1)] at h1
        simp only [Nat.pow_one] at h1
        omega
      have e3 : (a ^^^ b) = 2 * (a / 2 ^^^ b / 2) + (a % 2 ^^^ b % 2) := by
        have h1 := Nat.div_add_mod (a ^^^ b) 2
        rw [Nat.xor_div_two, Nat.xor_mod_two_pow (n := 1)] at h1
        simp only [Nat.pow_one] at h1
        omega
      have h3 : (a % 2 &&& b % 2) + (a % 2 ^^^ b % 2) = (a % 2 ||| b % 2) := by
        rcases Nat.mod_two_eq_zero_or_one a with h | h <;> rcases Nat.mod_two_eq_zero_or_one b with h' | h' <;> rw [h, h'] <;> rfl
      omega

theorem two_plain {x y n : Int} (hn : n = 32 ∨ n = 64) (hx : In x n) (hy : In y n) (k : Nat) (hk : 4 ≤ k) :
    num_two.f k 0 x y n = some ((x + y) % 18446744073709551616, 0) ∧ num_two.f k 1 x y n = some ((x - y) % 18446744073709551616, 0) ∧ num_two.f k 2 x y n = some ((x * y) % 18446744073709551616, 0) := by
  have hw : ¬ IntKind.u64.wrap n = 0 := by rw [wu64]; omega
  refine ⟨?_, ?_, ?_⟩
  · unfold num_two.f; rw [if_neg hw, if_pos rfl, wu64]
  · unfold num_two.f; rw [if_neg hw, if_neg (by decide), if_pos rfl, wu64]
  · unfold num_two.f; rw [if_neg hw, if_neg (by decide), if_neg (by decide), if_pos rfl, wu64]

/-- Which way the operations from 7 on go. -/
theorem two_high {i x y n : Int} (hn : n = 32 ∨ n = 64) (hx : In x n) (hy : In y n) (hi : 7 ≤ i) (k : Nat) :
    num_two.f (k + 1) i x y n = num_two.j0 (k + 1) i x y n (y % n) i false := by
  have hw : ¬ IntKind.u64.wrap n = 0 := by rw [wu64]; omega
  have hy0 := hy.1
  have e : wrap64 (Int.tmod y (IntKind.u64.wrap n)) = y % n := by
    rw [wu64, Int.tmod_eq_emod_of_nonneg hy0]
    rcases hn with rfl | rfl
    · rw [show (32 : Int) % 18446744073709551616 = 32 from rfl, w64 _ (by omega) (by omega)]
    · rw [show (64 : Int) % 18446744073709551616 = 64 from rfl, w64 _ (by omega) (by omega)]
  unfold num_two.f
  rw [if_neg hw, if_neg (by omega), if_neg (by omega), if_neg (by omega), if_neg (by omega), if_neg (by omega), if_neg (by omega), e]
  rw [show (i == 6) = false from by rw [beq_eq_false_iff_ne]; omega]

theorem two_and {x y n : Int} (hn : n = 32 ∨ n = 64) (hx : In x n) (hy : In y n) (k : Nat) (hk : 4 ≤ k) :
    num_two.f k 7 x y n = some (((x.toNat &&& y.toNat : Nat) : Int), 0) ∧ num_two.f k 8 x y n = some (((x.toNat ||| y.toNat : Nat) : Int), 0) ∧ num_two.f k 9 x y n = some (((x.toNat ^^^ y.toNat : Nat) : Int), 0) := by
  obtain ⟨k, rfl⟩ : ∃ j, k = j + 1 := ⟨k - 1, by omega⟩
  have hx' := hx
  have hy' := hy
  obtain ⟨x0, x1, _⟩ := hx'
  obtain ⟨y0, y1, _⟩ := hy'
  obtain ⟨a, rfl⟩ := Int.eq_ofNat_of_zero_le x0
  obtain ⟨b, rfl⟩ := Int.eq_ofNat_of_zero_le y0
  refine ⟨?_, ?_, ?_⟩
  · rw [two_high hn hx hy (by omega), num_two.j0, if_neg (by decide), if_pos rfl, (nat64 a b (by omega) (by omega)).1]; rfl
  · rw [two_high hn hx hy (by omega), num_two.j0, if_neg (by decide), if_neg (by decide), if_pos rfl, (nat64 a b (by omega) (by omega)).2]; rfl
  · rw [two_high hn hx hy (by omega), num_two.j0, if_neg (by decide), if_neg (by decide), if_neg (by decide), if_pos rfl, bits_xor_nat a b (by omega) (by omega)]; rfl

theorem two_shl {x y n : Int} (hn : n = 32 ∨ n = 64) (hx : In x n) (hy : In y n) (k : Nat) (hk : 4 ≤ k) :
    num_two.f k 10 x y n = some ((x * 2 ^ (y % n).toNat) % 18446744073709551616, 0) := by
  obtain ⟨k, rfl⟩ : ∃ j, k = j + 1 := ⟨k - 1, by omega⟩
  have hr : 0 ≤ y % n ∧ y % n < 64 := by rcases hn with rfl | rfl <;> omega
  rw [two_high hn hx hy (by omega), num_two.j0, if_neg (by decide), if_neg (by decide), if_neg (by decide), if_neg (by decide), if_pos rfl, if_pos hr.1]
  unfold shl
  rw [show min (y % n).toNat (IntKind.bits .u64) = (y % n).toNat from by simp [IntKind.bits]; omega, wu64]

/-! ### the great row's operations, by their places -/
def Base (base n : Int) : Prop := (base = 106 ∧ n = 32) ∨ (base = 124 ∧ n = 64)
theorem rows32 : ∀ i : Fin 15, num_row.f 20 (106 + (i.val : Int)) = some (106, (i.val : Int), 32, true) ∧ num_Args.f 20 (106 + (i.val : Int)) = some (2, true) := by decide +kernel
theorem rows64 : ∀ i : Fin 15, num_row.f 20 (124 + (i.val : Int)) = some (106, (i.val : Int), 64, true) ∧ num_Args.f 20 (124 + (i.val : Int)) = some (2, true) := by decide +kernel
theorem Base.n {base n : Int} (h : Base base n) : n = 32 ∨ n = 64 := by rcases h with ⟨_, rfl⟩ | ⟨_, rfl⟩ <;> simp
theorem ev {base n x y v tr : Int} (hb : Base base n) (hx : In x n) (hy : In y n) (i : Nat) (hi : i < 15) (op : Int) (hop : op = base + (i : Int)) (k : Nat) (hk : 40 ≤ k)
    (htwo : ∀ k, 15 ≤ k → num_two.f k (i : Int) x y n = some (v, tr)) (h0 : 0 ≤ v) (h1 : v < 18446744073709551616) : num_Eval.f k op [x, y] = some (cutN v n, tr, none) := by
  subst hop
  rcases hb with ⟨rfl, rfl⟩ | ⟨rfl, rfl⟩
  · have := rows32 ⟨i, hi⟩
    exact Eval_two this.1 this.2 hx hy k hk htwo h0 h1
  · have := rows64 ⟨i, hi⟩
    exact Eval_two this.1 this.2 hx hy k hk htwo h0 h1
theorem cut_of_in {x n : Int} (h : In x n) : cutN x n = x := by
  unfold cutN
  split
  · rename_i hn; exact Int.emod_eq_of_lt h.1 (h.2.2 hn)
  · rfl
theorem in_cut {v n : Int} (h0 : 0 ≤ v) (h1 : v < 18446744073709551616) : In (cutN v n) n := by
  unfold cutN
  split
  · exact ⟨by omega, by omega, fun _ => by omega⟩
  · rename_i hn; exact ⟨h0, h1, fun h => absurd h hn⟩

/-! ### quotients, turns, one argument -/
def M (n : Int) : Int := if n = 32 then 4294967296 else 18446744073709551616
theorem M_dvd {n : Int} : M n ∣ 18446744073709551616 := by
  unfold M
  split
  · exact ⟨4294967296, by decide⟩
  · exact ⟨1, by decide⟩
theorem M_pos {n : Int} : 0 < M n := by unfold M; split <;> decide
theorem cutN_M {v n : Int} (h0 : 0 ≤ v) (h1 : v < 18446744073709551616) : cutN v n = v % M n := by
  unfold cutN M
  split
  · rfl
  · rw [Int.emod_eq_of_lt h0 h1]
theorem cut_mod (z n : Int) : cutN (z % 18446744073709551616) n = z % M n := by
  rw [cutN_M (by omega) (by omega), Int.emod_emod_of_dvd _ M_dvd]
theorem in_M {x n : Int} (hn : n = 32 ∨ n = 64) (h : In x n) : x % M n = x := by
  obtain ⟨h0, h1, h2⟩ := h
  unfold M
  rcases hn with rfl | rfl
  · rw [if_pos rfl]; exact Int.emod_eq_of_lt h0 (h2 rfl)
  · rw [if_neg (by decide)]; exact Int.emod_eq_of_lt h0 h1
theorem sg_M {x n : Int} (hn : n = 32 ∨ n = 64) : sg x n % M n = x % M n := by
  unfold sg M
  rcases hn with rfl | rfl
  · rw [if_pos rfl, if_pos rfl]; unfold wrap32; omega
  · rw [if_neg (by decide), if_neg (by decide)]; unfold wrap64; omega
theorem wrap64_M (z n : Int) : wrap64 z % M n = z % M n := by
  rw [← Int.emod_emod_of_dvd (wrap64 z) (M_dvd (n := n)), ← Int.emod_emod_of_dvd z (M_dvd (n := n))]
  congr 1
  unfold wrap64; omega

theorem two_div {x y n : Int} (hn : n = 32 ∨ n = 64) (i : Nat) (hi : i < 4) (k : Nat) (hk : 6 ≤ k) {v t : Int} (hd : ∀ k, 2 ≤ k → num_divided.f k (i : Int) x y n = some (v, t)) :
    num_two.f k ((3 + i : Nat) : Int) x y n = some (v, t) := by
  have hw : ¬ IntKind.u64.wrap n = 0 := by rw [wu64]; omega
  obtain ⟨k, rfl⟩ : ∃ j, k = j + 1 := ⟨k - 1, by omega⟩
  have j0 : ∀ b q, num_two.j0 (k + 1) ((3 + i : Nat) : Int) x y n b q true = some (v, t) := by
    intro b q
    rw [num_two.j0, if_pos rfl, w64 _ (by omega) (by omega), show ((3 + i : Nat) : Int) - 3 = (i : Int) from by omega, hd k (by omega)]
    rfl
  unfold num_two.f
  rw [if_neg hw, if_neg (by omega), if_neg (by omega), if_neg (by omega)]
  rcases (show i = 0 ∨ i = 1 ∨ i = 2 ∨ i = 3 by omega) with rfl | rfl | rfl | rfl
  · rw [if_pos (by rfl)]; exact j0 _ _
  · rw [if_neg (by decide), if_pos (by rfl)]; exact j0 _ _
  · rw [if_neg (by decide), if_neg (by decide), if_pos (by rfl)]; exact j0 _ _
  · rw [if_neg (by decide), if_neg (by decide), if_neg (by decide)]; exact j0 _ _

theorem top_bit {n : Int} (hn : n = 32 ∨ n = 64) : shl .u64 1 (wrap64 (n - 1)) = if n = 32 then 2147483648 else 9223372036854775808 := by
  rcases hn with rfl | rfl
  · rw [w64 _ (by omega) (by omega)]; decide +kernel
  · rw [w64 _ (by omega) (by omega)]; decide +kernel

/-- Is it the quotient that isn't there? -/
def Over (x y n : Int) : Prop := sg y n = -1 ∧ x = (if n = 32 then 2147483648 else 9223372036854775808)
instance (x y n : Int) : Decidable (Over x y n) := inferInstanceAs (Decidable (_ ∧ _))

theorem div_zero {x y n : Int} (hn : n = 32 ∨ n = 64) (hx : In x n) (hy : In y n) (h : y = 0) (i : Int) (k : Nat) : num_divided.f k i x y n = some (0, 2) := by
  unfold num_divided.f
  rw [signed_f hx, signed_f hy]
  simp only [Option.bind_some]
  rw [if_pos h]
theorem div_any {x y n : Int} (hn : n = 32 ∨ n = 64) (hx : In x n) (hy : In y n) (h : ¬ y = 0) (k : Nat) (hk : 2 ≤ k) :
    num_divided.f k 0 x y n = some (if Over x y n then (0, 3) else (IntKind.u64.wrap (wrap64 (Int.tdiv (sg x n) (sg y n))), 0)) ∧
    num_divided.f k 1 x y n = some (IntKind.u64.wrap (Int.tdiv x y), 0) ∧
    num_divided.f k 2 x y n = some (if sg y n = -1 then (0, 0) else (IntKind.u64.wrap (Int.tmod (sg x n) (sg y n)), 0)) ∧
    num_divided.f k 3 x y n = some (Int.tmod x y, 0) := by
  have hs : ¬ sg y n = 0 := fun e => h (by
    obtain ⟨h0, h1, h2⟩ := hy
    unfold sg at e
    rcases hn with rfl | rfl
    · have := h2 rfl
      rw [if_pos rfl] at e; unfold wrap32 at e; omega
    · rw [if_neg (by decide)] at e; unfold wrap64 at e; omega)
  obtain ⟨k, rfl⟩ : ∃ j, k = j + 1 + 1 := ⟨k - 2, by omega⟩
  have hp : 0 ≤ wrap64 (n - 1) := by rcases hn with rfl | rfl <;> (rw [w64 _ (by omega) (by omega)]; omega)
  have j1 : ∀ i : Int, num_divided.j1 (k + 1) i x y (sg x n) (sg y n) = some (if i = 0 then (IntKind.u64.wrap (wrap64 (Int.tdiv (sg x n) (sg y n))), 0) else if i = 1 then (IntKind.u64.wrap (Int.tdiv x y), 0) else if i = 2 then (IntKind.u64.wrap (Int.tmod (sg x n) (sg y n)), 0) else (Int.tmod x y, 0)) := by
    intro i
    rw [num_divided.j1, if_neg hs, if_neg h, if_neg hs, if_neg h]
    repeat' split
    all_goals rfl
  have j0 : ∀ (i : Int) (b : Bool), num_divided.j0 (k + 1 + 1) i x y (sg x n) (sg y n) b = if b = true then some (0, 3) else if sg y n = -1 ∧ i = 2 then some (0, 0) else num_divided.j1 (k + 1) i x y (sg x n) (sg y n) := by
    intro i b
    rw [num_divided.j0]
    by_cases hb : b = true
    · rw [if_pos hb, if_pos hb]
    · rw [if_neg hb, if_neg hb]
      by_cases hm : sg y n = -1
      · rw [if_pos hm]
        by_cases hi : i = 2
        · rw [if_pos hi, if_pos ⟨hm, hi⟩]
        · rw [if_neg hi, if_neg (fun q => hi q.2)]
      · rw [if_neg hm, if_neg (fun q => hm q.1)]
  unfold num_divided.f
  rw [signed_f hx, signed_f hy]
  simp only [Option.bind_some]
  rw [if_neg h, if_neg h, if_neg h, if_neg h, if_pos hp, top_bit hn]
  refine ⟨?_, ?_, ?_, ?_⟩
  · by_cases hov : Over x y n
    · have hm := hov.1
      have ho := hov.2
      rw [if_pos hov, if_pos hm, if_pos trivial, j0, if_pos (by rw [beq_iff_eq]; exact ho)]
    · rw [if_neg hov]
      by_cases hm : sg y n = -1
      · have ho : ¬ x = (if n = 32 then 2147483648 else 9223372036854775808) := fun e => hov ⟨hm, e⟩
        rw [if_pos hm, if_pos trivial, j0, if_neg (by rw [beq_iff_eq]; exact ho), if_neg (fun q => by have := q.2; omega), j1, if_pos rfl]
      · rw [if_neg hm, j0, if_neg (by decide), if_neg (fun q => hm q.1), j1, if_pos rfl]
  · by_cases hm : sg y n = -1
    · rw [if_pos hm, if_neg (by decide), j0, if_neg (by decide), if_neg (fun q => by have := q.2; omega), j1, if_neg (by decide), if_pos rfl]
    · rw [if_neg hm, j0, if_neg (by decide), if_neg (fun q => hm q.1), j1, if_neg (by decide), if_pos rfl]
  · by_cases hm : sg y n = -1
    · rw [if_pos hm, if_neg (by decide), j0, if_neg (by decide), if_pos ⟨hm, rfl⟩, if_pos hm]
    · rw [if_neg hm, j0, if_neg (by decide), if_neg (fun q => hm q.1), if_neg hm, j1, if_neg (by decide), if_neg (by decide), if_pos rfl]
  · by_cases hm : sg y n = -1
    · rw [if_pos hm, if_neg (by decide), j0, if_neg (by decide), if_neg (fun q => by have := q.2; omega), j1, if_neg (by decide), if_neg (by decide), if_neg (by decide)]
    · rw [if_neg hm, j0, if_neg (by decide), if_neg (fun q => hm q.1), j1, if_neg (by decide), if_neg (by decide), if_neg (by decide)]

/-- A number of W bits, turned up by s. -/
def rot (W x s : Nat) : Nat := (x * 2 ^ s) % 2 ^ W + x / 2 ^ (W - s)
theorem rot_lt (W x s : Nat) (hs : s ≤ W) (hx : x < 2 ^ W) : rot W x s < 2 ^ W ∧ (x * 2 ^ s) % 2 ^ W = 2 ^ s * (x % 2 ^ (W - s)) ∧ x / 2 ^ (W - s) < 2 ^ s := by
  have hq : 2 ^ s * 2 ^ (W - s) = 2 ^ W := by rw [← Nat.pow_add]; congr 1; omega
  have h1 : (x * 2 ^ s) % 2 ^ W = 2 ^ s * (x % 2 ^ (W - s)) := by rw [Nat.mul_comm, ← hq, Nat.mul_mod_mul_left]
  have h2 : x / 2 ^ (W - s) < 2 ^ s := by rw [Nat.div_lt_iff_lt_mul (Nat.two_pow_pos _), hq]; exact hx
  refine ⟨?_, h1, h2⟩
  unfold rot
  rw [h1]
  have h3 := Nat.mod_lt x (Nat.two_pow_pos (W - s))
  have h4 : 2 ^ s * (x % 2 ^ (W - s) + 1) ≤ 2 ^ s * 2 ^ (W - s) := Nat.mul_le_mul_left _ h3
  rw [Nat.mul_add, hq] at h4
  omega
theorem rot_back (W x s : Nat) (hs : s < W) (hx : x < 2 ^ W) : rot W (rot W x s) ((W - s) % W) = x := by
  rcases Nat.eq_zero_or_pos s with rfl | h0
  · rw [Nat.sub_zero, Nat.mod_self]
    simp only [rot, Nat.pow_zero, Nat.mul_one, Nat.sub_zero, Nat.mod_eq_of_lt hx, Nat.div_eq_of_lt hx, Nat.add_zero]
  · rw [Nat.mod_eq_of_lt (by omega)]
    obtain ⟨_, e1, l1⟩ := rot_lt W x s (by omega) hx
    have hr : rot W x s = 2 ^ s * (x % 2 ^ (W - s)) + x / 2 ^ (W - s) := by unfold rot; rw [e1]
    generalize hl : x % 2 ^ (W - s) = l at hr e1
    generalize hh : x / 2 ^ (W - s) = h at hr l1
    rw [hr]
    unfold rot
    rw [show W - (W - s) = s from by omega]
    have hq : 2 ^ (W - s) * 2 ^ s = 2 ^ W := by rw [← Nat.pow_add]; congr 1; omega
    have a1 : (2 ^ s * l + h) / 2 ^ s = l := by
      rw [Nat.mul_add_div (Nat.two_pow_pos s), Nat.div_eq_of_lt l1, Nat.add_zero]
    have a2 : (2 ^ s * l + h) * 2 ^ (W - s) % 2 ^ W = 2 ^ (W - s) * h := by
      rw [Nat.mul_comm, ← hq, Nat.mul_mod_mul_left, Nat.mul_add_mod, Nat.mod_eq_of_lt l1]
    rw [a1, a2, ← hl, ← hh]
    exact Nat.div_add_mod x (2 ^ (W - s))

theorem mask63 (z : Int) : Go.bits .and .u64 (IntKind.u64.wrap z) 63 = z % 64 := by
  rw [wu64]
  obtain ⟨c, hc⟩ := Int.eq_ofNat_of_zero_le (show 0 ≤ z % 18446744073709551616 by omega)
  rw [hc]
  have := (nat64 c 63 (by omega) (by decide)).1
  rw [show ((63 : Nat) : Int) = 63 from rfl] at this
  rw [this, show 63 = 2 ^ 6 - 1 from rfl, Nat.and_two_pow_sub_one_eq_mod]
  omega
theorem mask31 (z : Int) : Go.bits .and .u64 (IntKind.u64.wrap z) 31 = z % 32 := by
  rw [wu64]
  obtain ⟨c, hc⟩ := Int.eq_ofNat_of_zero_le (show 0 ≤ z % 18446744073709551616 by omega)
  rw [hc]
  have := (nat64 c 31 (by omega) (by decide)).1
  rw [show ((31 : Nat) : Int) = 31 from rfl] at this
  rw [this, show 31 = 2 ^ 5 - 1 from rfl, Nat.and_two_pow_sub_one_eq_mod]
  omega
theorem nat32 (a b : Nat) (ha : a < 4294967296) (hb : b < 4294967296) : Go.bits .or .u32 (a : Int) (b : Int) = ((a ||| b : Nat) : Int) :=
  (bits_nat .u32 32 (by decide) (fun n h0 h => by rw [IntKind.wrap_u32]; omega) a b (by omega) (by omega)).2

theorem rot64_f (x : Nat) (z : Int) (hx : x < 18446744073709551616) : bits_RotateLeft64.f (x : Int) z = some ((rot 64 x (z % 64).toNat : Nat) : Int) := by
  unfold bits_RotateLeft64.f
  rw [mask63]
  obtain ⟨s, hs⟩ := Int.eq_ofNat_of_zero_le (show 0 ≤ z % 64 by omega)
  have hs64 : s < 64 := by omega
  rw [hs, show ((s : Int)).toNat = s from rfl, wu64, show (64 - (s : Int)) % 18446744073709551616 = ((64 - s : Nat) : Int) from by omega, if_pos (by omega), if_pos (by omega)]
  obtain ⟨h1, h2, h3⟩ := rot_lt 64 x s (by omega) (by omega)
  have e1 : shl .u64 (x : Int) (s : Int) = (((x * 2 ^ s) % 2 ^ 64 : Nat) : Int) := by
    unfold shl
    rw [show min (s : Int).toNat (IntKind.bits .u64) = s from by simp [IntKind.bits]; omega, wu64]
    have hm : (x : Int) * 2 ^ s = ((x * 2 ^ s : Nat) : Int) := by rw [Int.natCast_mul, Int.natCast_pow]; rfl
    rw [hm]; omega
  have e2 : shr .u64 (x : Int) ((64 - s : Nat) : Int) = ((x / 2 ^ (64 - s) : Nat) : Int) := by
    unfold shr
    rw [show min ((64 - s : Nat) : Int).toNat (IntKind.bits .u64) = 64 - s from Nat.min_eq_left (by simp only [IntKind.bits]; omega)]
    rw [Int.natCast_ediv, Int.natCast_pow]; rfl
  rw [e1, e2]
  have hlt : x / 2 ^ (64 - s) < 18446744073709551616 := Nat.lt_of_le_of_lt (Nat.div_le_self _ _) hx
  rw [(nat64 _ _ (by omega) hlt).2]
  congr 2
  rw [h2, ← Nat.two_pow_add_eq_or_of_lt h3]
  unfold rot; rw [h2]
theorem rot32_f (x : Nat) (z : Int) (hx : x < 4294967296) : bits_RotateLeft32.f (x : Int) z = some ((rot 32 x (z % 32).toNat : Nat) : Int) := by
  unfold bits_RotateLeft32.f
  rw [mask31]
  obtain ⟨s, hs⟩ := Int.eq_ofNat_of_zero_le (show 0 ≤ z % 32 by omega)
  have hs64 : s < 32 := by omega
  rw [hs, show ((s : Int)).toNat = s from rfl, wu64, show (32 - (s : Int)) % 18446744073709551616 = ((32 - s : Nat) : Int) from by omega, if_pos (by omega), if_pos (by omega)]
  obtain ⟨h1, h2, h3⟩ := rot_lt 32 x s (by omega) (by omega)
  have e1 : shl .u32 (x : Int) (s : Int) = (((x * 2 ^ s) % 2 ^ 32 : Nat) : Int) := by
    unfold shl
    rw [show min (s : Int).toNat (IntKind.bits .u32) = s from by simp [IntKind.bits]; omega, IntKind.wrap_u32]
    have hm : (x : Int) * 2 ^ s = ((x * 2 ^ s : Nat) : Int) := by rw [Int.natCast_mul, Int.natCast_pow]; rfl
    rw [hm]; omega
  have e2 : shr .u32 (x : Int) ((32 - s : Nat) : Int) = ((x / 2 ^ (32 - s) : Nat) : Int) := by
    unfold shr
    rw [show min ((32 - s : Nat) : Int).toNat (IntKind.bits .u32) = 32 - s from Nat.min_eq_left (by simp only [IntKind.bits]; omega)]
    rw [Int.natCast_ediv, Int.natCast_pow]; rfl
  rw [e1, e2]
  have hlt : x / 2 ^ (32 - s) < 4294967296 := Nat.lt_of_le_of_lt (Nat.div_le_self _ _) hx
  rw [nat32 _ _ (by omega) hlt]
  congr 2
  rw [h2, ← Nat.two_pow_add_eq_or_of_lt h3]
  unfold rot; rw [h2]

/-- A value turned up by z. -/
theorem turned_f {x n : Int} (hn : n = 32 ∨ n = 64) (hx : In x n) (z : Int) : num_turned.f x z n = some ((rot n.toNat x.toNat (z % n).toNat : Nat) : Int) ∧ rot n.toNat x.toNat (z % n).toNat < 2 ^ n.toNat := by
  obtain ⟨h0, h1, h2⟩ := hx
  obtain ⟨a, rfl⟩ := Int.eq_ofNat_of_zero_le h0
  unfold num_turned.f
  rcases hn with rfl | rfl
  · have := h2 rfl
    have hl := (rot_lt 32 a ((z % 32).toNat) (by omega) (by omega)).1
    rw [if_pos rfl, Int.emod_eq_of_lt h0 this, rot32_f a z (by omega)]
    simp only [Option.bind_some]
    rw [wu64, Int.emod_eq_of_lt (by omega) (by omega)]
    exact ⟨rfl, hl⟩
  · have hl := (rot_lt 64 a ((z % 64).toNat) (by omega) (by omega)).1
    rw [if_neg (by decide), rot64_f a z (by omega)]
    exact ⟨rfl, hl⟩
theorem two_turn {x y n : Int} (hn : n = 32 ∨ n = 64) (hx : In x n) (hy : In y n) (k : Nat) (hk : 4 ≤ k) :
    num_two.f k 13 x y n = some (((rot n.toNat x.toNat (y % n).toNat : Nat) : Int), 0) ∧ num_two.f k 14 x y n = some (((rot n.toNat x.toNat ((n.toNat - (y % n).toNat) % n.toNat) : Nat) : Int), 0) := by
  obtain ⟨k, rfl⟩ : ∃ j, k = j + 1 := ⟨k - 1, by omega⟩
  have hr : 0 ≤ y % n ∧ y % n < n ∧ n ≤ 64 := by rcases hn with rfl | rfl <;> omega
  have e1 : (y % n % n).toNat = (y % n).toNat := by rcases hn with rfl | rfl <;> omega
  have e2 : (wrap64 (-(y % n)) % n).toNat = (n.toNat - (y % n).toNat) % n.toNat := by
    rw [w64 _ (by omega) (by omega)]
    rcases hn with rfl | rfl
    · rw [show (32 : Int).toNat = 32 from rfl]; omega
    · rw [show (64 : Int).toNat = 64 from rfl]; omega
  constructor
  · rw [two_high hn hx hy (by decide), num_two.j0, if_neg (by decide), if_neg (by decide), if_neg (by decide), if_neg (by decide), if_neg (by decide), if_neg (by decide), if_neg (by decide), if_pos rfl, (turned_f hn hx _).1, e1]; rfl
  · rw [two_high hn hx hy (by decide), num_two.j0, if_neg (by decide), if_neg (by decide), if_neg (by decide), if_neg (by decide), if_neg (by decide), if_neg (by decide), if_neg (by decide), if_neg (by decide), (turned_f hn hx _).1, e2]; rfl

/-- What is wrapped, and extended. -/
theorem Eval_wrap {x : Int} (hx : In x 64) (k : Nat) (hk : 40 ≤ k) : num_Eval.f k 167 [x] = some (x % 4294967296, 0, none) := by
  obtain ⟨k, rfl⟩ : ∃ j, k = j + 1 + 22 := ⟨k - 23, by omega⟩
  have := Eval_f (op := 167) (first := 167) (i := 0) (n := 64) (many := 1) (by decide +kernel) (by decide +kernel) [x] rfl (by simp) (fun z hz => by simp at hz; subst hz; exact hx) k
  rw [show [x].length = 1 from rfl] at this
  rw [this, show k + 21 = (k + 20) + 1 from rfl, num_Eval.l0]
  rw [if_neg (by omega), if_pos (by simp), if_neg (by decide), if_neg (by decide), if_neg (by decide), if_neg (by decide), if_pos rfl, show rd [x] 0 = x from rfl, cut_f hx.1 hx.2.1]
  rfl
theorem Eval_widen {x : Int} (hx : In x 32) (k : Nat) (hk : 40 ≤ k) : num_Eval.f k 172 [x] = some (IntKind.u64.wrap (sg x 32), 0, none) ∧ num_Eval.f k 173 [x] = some (x, 0, none) := by
  obtain ⟨k, rfl⟩ : ∃ j, k = j + 1 + 22 := ⟨k - 23, by omega⟩
  constructor
  · have := Eval_f (op := 172) (first := 172) (i := 0) (n := 32) (many := 1) (by decide +kernel) (by decide +kernel) [x] rfl (by simp) (fun z hz => by simp at hz; subst hz; exact hx) k
    rw [show [x].length = 1 from rfl] at this
    rw [this, show k + 21 = (k + 20) + 1 from rfl, num_Eval.l0]
    rw [if_neg (by omega), if_pos (by simp), if_neg (by decide), if_neg (by decide), if_neg (by decide), if_neg (by decide), if_neg (by decide), if_pos rfl, show rd [x] 0 = x from rfl, signed_f hx]
    rfl
  · have := Eval_f (op := 173) (first := 172) (i := 1) (n := 32) (many := 1) (by decide +kernel) (by decide +kernel) [x] rfl (by simp) (fun z hz => by simp at hz; subst hz; exact hx) k
    rw [show [x].length = 1 from rfl] at this
    rw [this, show k + 21 = (k + 20) + 1 from rfl, num_Eval.l0]
    rw [if_neg (by omega), if_pos (by simp), if_neg (by decide), if_neg (by decide), if_neg (by decide), if_neg (by decide), if_neg (by decide), if_neg (by decide), show rd [x] 0 = x from rfl]

end Go.Proofs.YtgplakhkofchiaaDoor.QNumEvals
