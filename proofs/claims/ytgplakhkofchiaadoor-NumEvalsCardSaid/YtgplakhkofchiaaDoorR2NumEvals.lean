import Derived.Test.YtgplakhkofchiaaDoorR1NumEvals
set_option linter.unusedVariables false
set_option linter.unusedSimpArgs false
namespace Go.Proofs.YtgplakhkofchiaaDoor.QNumEvals
open Go.RowKit Go.Proofs.YtgplakhkofchiaaDoor.RNumEvals Go.Proofs.YtgplakhkofchiaaDoorW.PrintWords Go.Proofs.YtgplakhkofchiaaDoorW.PrintLast

/-! ### ref's small words -/
theorem low_f {v n : Int} (h0 : 0 ≤ v) : grommetref03_low.f v n = some (cutN v n) := by
  unfold grommetref03_low.f cutN
  rw [Int.tmod_eq_emod_of_nonneg h0]
  split <;> rfl
theorem not64 (a : Nat) (ha : a < 18446744073709551616) : (18446744073709551615 ^^^ a) = 18446744073709551615 - a := by
  have h1 := and_xor_or 18446744073709551615 a
  have h2 := and_or_add 18446744073709551615 a
  have h3 : 18446744073709551615 &&& a = a := by
    rw [Nat.and_comm, show 18446744073709551615 = 2 ^ 64 - 1 from rfl, Nat.and_two_pow_sub_one_eq_mod]; omega
  omega
theorem opposite_f {a n : Int} (h0 : 0 ≤ a) (h1 : a < 18446744073709551616) : grommetref03_opposite.f a n = some ((-a) % M n) := by
  unfold grommetref03_opposite.f
  obtain ⟨b, rfl⟩ := Int.eq_ofNat_of_zero_le h0
  have := bits_xor_nat 18446744073709551615 b (by decide) (by omega)
  rw [not64 b (by omega)] at this
  rw [show (IntKind.u64.max) = ((18446744073709551615 : Nat) : Int) from by decide, this, low_f (by rw [wu64]; omega), Option.bind_some, wu64]
  rw [show ((18446744073709551615 - b : Nat) : Int) + 1 = -(b : Int) + 18446744073709551616 from by omega]
  rw [cut_mod, ← Int.emod_emod_of_dvd (-(b : Int) + 18446744073709551616) (M_dvd (n := n)), show (-(b : Int) + 18446744073709551616) % 18446744073709551616 = -(b : Int) % 18446744073709551616 from by omega, Int.emod_emod_of_dvd _ M_dvd]
theorem top_sg {a N : Nat} (hN : N = 32 ∨ N = 64) (h : In (a : Int) (N : Int)) : a.testBit (N - 1) = decide (sg (a : Int) (N : Int) < 0) := by
  obtain ⟨h0, h1, h2⟩ := h
  have hb := Nat.toNat_testBit a (N - 1)
  rcases hN with rfl | rfl
  · have := h2 (by decide)
    rw [show (2 : Nat) ^ (32 - 1) = 2147483648 from rfl] at hb
    have e : sg (a : Int) ((32 : Nat) : Int) = wrap32 a := if_pos rfl
    rw [e]; unfold wrap32
    cases ht : a.testBit (32 - 1) <;> rw [ht] at hb <;> simp at hb ⊢ <;> omega
  · rw [show (2 : Nat) ^ (64 - 1) = 9223372036854775808 from rfl] at hb
    have e : sg (a : Int) ((64 : Nat) : Int) = wrap64 a := if_neg (by decide)
    rw [e]; unfold wrap64
    cases ht : a.testBit (64 - 1) <;> rw [ht] at hb <;> simp at hb ⊢ <;> omega
theorem negative_f {a N : Nat} (hN : N = 32 ∨ N = 64) (h : In (a : Int) (N : Int)) : grommetref03_negative.f a N = some (decide (sg (a : Int) (N : Int) < 0)) := by
  unfold grommetref03_negative.f
  rw [w64 _ (by omega) (by omega), show (N : Int) - 1 = ((N - 1 : Nat) : Int) from by omega, refbit a _ (by have := h.2.1; omega) (by omega), Option.bind_some, top_sg hN h]
  cases decide (sg (a : Int) (N : Int) < 0) <;> rfl
theorem sg_cases {a N : Nat} (hN : N = 32 ∨ N = 64) (h : In (a : Int) (N : Int)) : (sg (a : Int) (N : Int) < 0 → sg (a : Int) N = a - M N) ∧ (¬ sg (a : Int) (N : Int) < 0 → sg (a : Int) N = a) ∧ (a : Int) < M N := by
  obtain ⟨h0, h1, h2⟩ := h
  unfold M
  rcases hN with rfl | rfl
  · have := h2 (by decide)
    have e : sg (a : Int) ((32 : Nat) : Int) = wrap32 a := if_pos rfl
    rw [e, if_pos (by decide)]; unfold wrap32; omega
  · have e : sg (a : Int) ((64 : Nat) : Int) = wrap64 a := if_neg (by decide)
    rw [e, if_neg (by decide)]; unfold wrap64; omega
theorem less_f {a b N : Nat} (hN : N = 32 ∨ N = 64) (ha : In (a : Int) (N : Int)) (hb : In (b : Int) (N : Int)) (s : Bool) :
    grommetref03_less.f a b N s = some (if s = true then decide (sg (a : Int) N < sg (b : Int) N) else decide ((a : Int) < b)) := by
  unfold grommetref03_less.f
  rw [negative_f hN ha, negative_f hN hb, Option.bind_some, Option.bind_some]
  obtain ⟨a1, a2, a3⟩ := sg_cases hN ha
  obtain ⟨b1, b2, b3⟩ := sg_cases hN hb
  cases s
  · simp
  · by_cases ca : sg (a : Int) N < 0 <;> by_cases cb : sg (b : Int) N < 0 <;> simp [ca, cb]
    all_goals (first | omega | (have := a1 ca; have := b1 cb; omega) | (have := a1 ca; have := b2 cb; omega) | (have := a2 ca; have := b1 cb; omega) | (have := a2 ca; have := b2 cb; omega))
theorem compare_ref {a b N : Nat} (hN : N = 32 ∨ N = 64) (ha : In (a : Int) (N : Int)) (hb : In (b : Int) (N : Int)) (i : Nat) (hi : i < 10) (k : Nat) (hk : 5 ≤ k) :
    grommetref03_compare.f k (i : Int) a b N = some (cmp (i : Int) a b N) := by
  obtain ⟨k, rfl⟩ : ∃ j, k = j + 1 + 1 + 1 := ⟨k - 3, by omega⟩
  have l1 := fun s => less_f hN ha hb s
  have l2 := fun s => less_f hN hb ha s
  unfold grommetref03_compare.f
  rcases (show i = 0 ∨ i = 1 ∨ i = 2 ∨ i = 3 ∨ i = 4 ∨ i = 5 ∨ i = 6 ∨ i = 7 ∨ i = 8 ∨ i = 9 by omega) with rfl | rfl | rfl | rfl | rfl | rfl | rfl | rfl | rfl | rfl <;>
    simp [grommetref03_compare.j0, grommetref03_compare.j1, grommetref03_compare.j2, l1, l2, cmp]
  all_goals (rw [← decide_not, decide_eq_decide]; omega)

/-! ### quotients -/
theorem M_pow {N : Nat} (hN : N = 32 ∨ N = 64) : M (N : Int) = ((2 ^ N : Nat) : Int) := by
  unfold M
  rcases hN with rfl | rfl
  · rw [if_pos (by decide)]; decide
  · rw [if_neg (by decide)]; decide
/-- The number without its sign. -/
def mag (a : Int) (n : Int) : Int := if sg a n < 0 then (-a) % M n else a
theorem mag_eq {a N : Nat} (hN : N = 32 ∨ N = 64) (h : In (a : Int) (N : Int)) : mag a N = (if sg (a : Int) N < 0 then -(sg (a : Int) N) else sg (a : Int) N) ∧ 0 ≤ mag a N ∧ mag a N ≤ M N := by
  obtain ⟨c1, c2, c3⟩ := sg_cases hN h
  unfold mag
  have hp := M_pos (n := (N : Int))
  by_cases c : sg (a : Int) N < 0
  · rw [if_pos c, if_pos c]
    have e := c1 c
    have h0 : 0 < (a : Int) := by
      have hm : -(M (N : Int)) < sg (a : Int) N := by
        obtain ⟨h0, h1, h2⟩ := h
        unfold M
        rcases hN with rfl | rfl
        · have e : sg (a : Int) ((32 : Nat) : Int) = wrap32 a := if_pos rfl
          rw [e, if_pos (by decide)]; unfold wrap32; omega
        · have e : sg (a : Int) ((64 : Nat) : Int) = wrap64 a := if_neg (by decide)
          rw [e, if_neg (by decide)]; unfold wrap64; omega
      omega
    have hmod : (-(a : Int)) % M N = M N - a := by
      rw [show -(a : Int) = (M N - a) - M N from by omega, Int.sub_emod_right, Int.emod_eq_of_lt (by omega) (by omega)]
    rw [hmod]; omega
  · rw [if_neg c, if_neg c]; have := c2 c; omega

theorem tmod_minus_one (x : Int) : Int.tmod x (-1) = 0 := by
  rw [Int.tmod_neg]; exact Int.tmod_one x
theorem neg_mod {a b m : Int} (h : a % m = b % m) : (-a) % m = (-b) % m := by
  have h1 := Int.emod_emod_of_dvd
  have : (a - b) % m = 0 := by rw [Int.sub_emod, h, Int.sub_self, Int.zero_emod]
  obtain ⟨c, hc⟩ := Int.dvd_of_emod_eq_zero this
  rw [show -a = -b + m * (-c) from by rw [Int.mul_neg]; omega, Int.add_mul_emod_self_left]
theorem low_w (z n : Int) : grommetref03_low.f (IntKind.u64.wrap z) n = some (z % M n) := by
  rw [low_f (by rw [wu64]; omega), wu64, cut_mod]
theorem low_M {z n : Int} : grommetref03_low.f (z % M n) n = some (z % M n) := by
  have hp := M_pos (n := n)
  have h0 := Int.emod_nonneg z (show M n ≠ 0 by omega)
  have h1 := Int.emod_lt_of_pos z hp
  have h2 : M n ≤ 18446744073709551616 := by unfold M; split <;> decide
  rw [low_f h0, cutN_M h0 (by omega), Int.emod_emod_of_dvd _ (Int.dvd_refl _)]
theorem opp_w (z n : Int) : grommetref03_opposite.f (IntKind.u64.wrap z) n = some ((-z) % M n) := by
  rw [opposite_f (by rw [wu64]; omega) (by rw [wu64]; omega)]
  congr 1
  refine neg_mod ?_
  rw [wu64, Int.emod_emod_of_dvd _ M_dvd]

/-- The four ends, the two numbers without signs. -/
theorem div_j3 {X Y : Int} (n : Int) (hX : 0 ≤ X) (hY : 0 < Y) (hYM : Y ≤ 18446744073709551616) (p q : Bool) (k : Nat) :
    grommetref03_divide.j3 (k + 1) n X Y p q = some ((if p = q then Int.tdiv X Y else -(Int.tdiv X Y)) % M n, if p = true then (-(Int.tmod X Y)) % M n else Int.tmod X Y) := by
  have r0 : 0 ≤ Int.tmod X Y := Int.tmod_nonneg _ hX
  have r1 : Int.tmod X Y < Y := Int.tmod_lt_of_pos X hY
  have o := opposite_f (n := n) r0 (show Int.tmod X Y < 18446744073709551616 by omega)
  rw [grommetref03_divide.j3, if_neg (by omega), o, low_w, opp_w]
  cases p <;> cases q <;> simp [low_M]
theorem divide_s {a b N : Nat} (hN : N = 32 ∨ N = 64) (ha : In (a : Int) (N : Int)) (hb : In (b : Int) (N : Int)) (h : ¬ (b : Int) = 0) (k : Nat) (hk : 4 ≤ k) :
    grommetref03_divide.f k a b N true = some (Int.tdiv (sg (a : Int) N) (sg (b : Int) N) % M N, Int.tmod (sg (a : Int) N) (sg (b : Int) N) % M N) := by
  obtain ⟨k, rfl⟩ : ∃ j, k = j + 1 + 1 + 1 + 1 := ⟨k - 4, by omega⟩
  obtain ⟨a1, a2, a3⟩ := sg_cases hN ha
  obtain ⟨b1, b2, b3⟩ := sg_cases hN hb
  obtain ⟨ma, na0, na1⟩ := mag_eq hN ha
  obtain ⟨mb, nb0, nb1⟩ := mag_eq hN hb
  have hM : M (N : Int) ≤ 18446744073709551616 := by unfold M; split <;> decide
  have hp := M_pos (n := (N : Int))
  have hbp : 0 < mag b N := by rw [mb]; split <;> omega
  have step : grommetref03_divide.f (k + 1 + 1 + 1 + 1) a b N true = grommetref03_divide.j3 (k + 1) N (mag a N) (mag b N) (decide (sg (a : Int) N < 0)) (decide (sg (b : Int) N < 0)) := by
    unfold grommetref03_divide.f
    rw [if_pos rfl, negative_f hN ha, Option.bind_some, grommetref03_divide.j0, if_pos rfl, negative_f hN hb, Option.bind_some, grommetref03_divide.j1, opposite_f ha.1 ha.2.1, Option.bind_some]
    unfold mag
    by_cases ca : sg (a : Int) N < 0 <;> by_cases cb : sg (b : Int) N < 0 <;> simp [ca, cb, grommetref03_divide.j2, opposite_f hb.1 hb.2.1]
  rw [step, div_j3 _ na0 hbp (by omega)]
  have small : ∀ z : Int, 0 ≤ z → z < mag b N → z % M N = z := fun z h0 h1 => Int.emod_eq_of_lt h0 (by omega)
  by_cases ca : sg (a : Int) N < 0 <;> by_cases cb : sg (b : Int) N < 0
  · rw [if_pos ca] at ma
    rw [if_pos cb] at mb
    rw [ma, mb, decide_eq_true ca, decide_eq_true cb, if_pos rfl, if_pos rfl, Int.neg_tdiv_neg, Int.neg_tmod, Int.tmod_neg, Int.neg_neg]
  · rw [if_pos ca] at ma
    rw [if_neg cb] at mb
    rw [ma, mb, decide_eq_true ca, decide_eq_false cb, if_neg (by decide), if_pos rfl, Int.neg_tdiv, Int.neg_tmod, Int.neg_neg, Int.neg_neg]
  · rw [if_neg ca] at ma
    rw [if_pos cb] at mb
    have r0 : 0 ≤ Int.tmod (sg (a : Int) N) (sg (b : Int) N) := Int.tmod_nonneg _ (by omega)
    have r1 := Int.tmod_lt_of_pos (sg (a : Int) N) hbp
    rw [mb, Int.tmod_neg, ← mb] at r1
    rw [ma, mb, decide_eq_false ca, decide_eq_true cb, if_neg (by decide), if_neg (by decide), Int.tdiv_neg, Int.tmod_neg, Int.neg_neg, small _ r0 r1]
  · rw [if_neg ca] at ma
    rw [if_neg cb] at mb
    have r0 : 0 ≤ Int.tmod (sg (a : Int) N) (sg (b : Int) N) := Int.tmod_nonneg _ (by omega)
    have r1 := Int.tmod_lt_of_pos (sg (a : Int) N) hbp
    have r2 : Int.tmod (sg (a : Int) N) (sg (b : Int) N) < mag b N := by rw [mb] at r1 ⊢; exact r1
    rw [ma, mb, decide_eq_false ca, decide_eq_false cb, if_pos rfl, if_neg (by decide), small _ r0 r2]
theorem divide_u {a b N : Nat} (hN : N = 32 ∨ N = 64) (ha : In (a : Int) (N : Int)) (hb : In (b : Int) (N : Int)) (h : ¬ (b : Int) = 0) (k : Nat) (hk : 4 ≤ k) :
    grommetref03_divide.f k a b N false = some (Int.tdiv a b % M N, Int.tmod a b) := by
  obtain ⟨k, rfl⟩ : ∃ j, k = j + 1 + 1 + 1 + 1 := ⟨k - 4, by omega⟩
  have hM : M (N : Int) ≤ 18446744073709551616 := by unfold M; split <;> decide
  have := hb.2.1
  unfold grommetref03_divide.f
  rw [if_neg (by decide), grommetref03_divide.j0, if_neg (by decide), grommetref03_divide.j1, if_neg (by decide), grommetref03_divide.j2, if_neg (by decide), div_j3 _ (by omega) (by omega) (by omega)]
  rfl
end Go.Proofs.YtgplakhkofchiaaDoor.QNumEvals
