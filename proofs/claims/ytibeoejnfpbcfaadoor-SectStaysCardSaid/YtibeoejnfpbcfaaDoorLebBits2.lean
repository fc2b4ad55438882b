/- Plain facts on the bits of numbers, as the reference of LEB128 writes them out. No program in sight. -/
import Derived.Test.YtibeoejnfpbcfaaDoorLebMath
set_option linter.unusedVariables false
set_option linter.unusedSimpArgs false
namespace Go.Proofs.YtibeoejnfpbcfaaDoor.Leb
open Go.RowKit Go.Proofs.YtibeoejnfpbcfaaDoorW.PrintWords Go.Proofs.YtibeoejnfpbcfaaDoorW.PrintMore

/-- The seven-bit digits, the lowest first. -/
def dg : Nat → Nat → List Int
  | 0, _ => []
  | n + 1, D => ((D % 128 : Nat) : Int) :: dg n (D / 128)
/-- The bits, the lowest first. -/
def bs : Nat → Nat → List Int
  | 0, _ => []
  | n + 1, D => ((D % 2 : Nat) : Int) :: bs n (D / 2)

theorem dg_length : ∀ n D, (dg n D).length = n
  | 0, _ => rfl
  | n + 1, D => by simp [dg, dg_length n]
theorem bs_length : ∀ n D, (bs n D).length = n
  | 0, _ => rfl
  | n + 1, D => by simp [bs, bs_length n]
theorem dg_rd : ∀ n D i, i < n → rd (dg n D) (i : Int) = ((D / 128 ^ i % 128 : Nat) : Int)
  | 0, _, _, h => by omega
  | n + 1, D, 0, _ => by simp [dg, rd]
  | n + 1, D, i + 1, h => by
    have := dg_rd n (D / 128) i (by omega)
    simp only [rd, dg] at this ⊢
    rw [show ((i : Int)).toNat = i from rfl] at this
    rw [show (((i + 1 : Nat) : Int)).toNat = i + 1 from rfl, List.getD_cons_succ, this, Nat.div_div_eq_div_mul, Nat.pow_succ']
theorem bs_rd : ∀ n D i, i < n → rd (bs n D) (i : Int) = ((D / 2 ^ i % 2 : Nat) : Int)
  | 0, _, _, h => by omega
  | n + 1, D, 0, _ => by simp [bs, rd]
  | n + 1, D, i + 1, h => by
    have := bs_rd n (D / 2) i (by omega)
    simp only [rd, bs] at this ⊢
    rw [show ((i : Int)).toNat = i from rfl] at this
    rw [show (((i + 1 : Nat) : Int)).toNat = i + 1 from rfl, List.getD_cons_succ, this, Nat.div_div_eq_div_mul, Nat.pow_succ']
theorem bs_append : ∀ a b D, bs (a + b) D = bs a D ++ bs b (D / 2 ^ a)
  | 0, b, D => by simp [bs]
  | a + 1, b, D => by
    rw [show a + 1 + b = (a + b) + 1 from by omega]
    simp only [bs, List.cons_append]
    rw [bs_append a b (D / 2), Nat.div_div_eq_div_mul, Nat.pow_succ']
theorem bs_mod : ∀ a D, bs a (D % 2 ^ a) = bs a D
  | 0, D => rfl
  | a + 1, D => by
    simp only [bs]
    have h1 : D % 2 ^ (a + 1) % 2 = D % 2 := by rw [Nat.pow_succ']; exact Nat.mod_mul_right_mod D 2 _
    have h2 : D % 2 ^ (a + 1) / 2 = D / 2 % 2 ^ a := by rw [Nat.pow_succ']; exact Nat.mod_mul_right_div_self D 2 _
    rw [h1, h2, bs_mod a (D / 2)]

theorem bit_test (x i : Nat) : x / 2 ^ i % 2 = (x.testBit i).toNat := (Nat.toNat_testBit x i).symm

/-- The number whose lowest m bits are D's, all other of 64 bits are 'more'. -/
def fill (D m more : Nat) : Nat := 2 ^ m * ((2 ^ (64 - m) - 1) * more) + D % 2 ^ m
theorem fill_bit (D m more i : Nat) (hm : m ≤ 64) (h1 : more ≤ 1) (hi : i < 64) : fill D m more / 2 ^ i % 2 = if i < m then D / 2 ^ i % 2 else more := by
  rw [bit_test, bit_test]
  unfold fill
  rw [Nat.testBit_two_pow_mul_add _ (Nat.mod_lt _ (Nat.two_pow_pos m))]
  by_cases h : i < m
  · rw [if_pos h, if_pos h, Nat.testBit_mod_two_pow]
    simp [h]
  · rw [if_neg h, if_neg h]
    rcases (show more = 0 ∨ more = 1 from by omega) with rfl | rfl
    · simp
    · rw [Nat.mul_one, Nat.testBit_two_pow_sub_one]
      rw [decide_eq_true (by omega)]; rfl
theorem fill_lt (D m more : Nat) (hm : m ≤ 64) (h1 : more ≤ 1) : fill D m more < 2 ^ 64 := by
  unfold fill
  have h := Nat.mod_lt D (Nat.two_pow_pos m)
  have hq : 2 ^ m * 2 ^ (64 - m) = 2 ^ 64 := by rw [← Nat.pow_add]; congr 1; omega
  have hp := Nat.two_pow_pos (64 - m)
  have h2 : 2 ^ m * ((2 ^ (64 - m) - 1) * more) ≤ 2 ^ m * (2 ^ (64 - m) - 1) := Nat.mul_le_mul_left _ (by
    calc (2 ^ (64 - m) - 1) * more ≤ (2 ^ (64 - m) - 1) * 1 := Nat.mul_le_mul_left _ h1
      _ = _ := Nat.mul_one _)
  rw [Nat.mul_sub, hq, Nat.mul_one] at h2
  have : 2 ^ m ≤ 2 ^ 64 := Nat.pow_le_pow_right (by decide) hm
  omega
theorem fill_zero (D m : Nat) : fill D m 0 = D % 2 ^ m := by unfold fill; simp
theorem fill_one (D m : Nat) (hm : m ≤ 64) : fill D m 1 = 2 ^ 64 - 2 ^ m + D % 2 ^ m := by
  have hq : 2 ^ m * 2 ^ (64 - m) = 2 ^ 64 := by rw [← Nat.pow_add]; congr 1; omega
  unfold fill; rw [Nat.mul_one, Nat.mul_sub, hq, Nat.mul_one]

/-- Are all bits from i on, up to n, these? -/
def AllB (D more i n : Nat) : Prop := ∀ j, i ≤ j → j < n → D / 2 ^ j % 2 = more
theorem allB_none {D more i n : Nat} (h : n ≤ i) : AllB D more i n := fun j h1 h2 => by omega
theorem allB_step {D more i n : Nat} (h : i < n) : AllB D more i n ↔ D / 2 ^ i % 2 = more ∧ AllB D more (i + 1) n := by
  constructor
  · intro H; exact ⟨H i (Nat.le_refl _) h, fun j h1 h2 => H j (by omega) h2⟩
  · rintro ⟨h0, H⟩ j h1 h2
    rcases Nat.eq_or_lt_of_le h1 with rfl | h3
    · exact h0
    · exact H j h3 h2
theorem allB_zero {D i n : Nat} (hD : D < 2 ^ n) : AllB D 0 i n ↔ D < 2 ^ i ∨ n ≤ i := by
  rcases Nat.lt_or_ge i n with hin | hin
  · constructor
    · intro H
      refine Or.inl (Nat.lt_pow_two_of_testBit D (fun j hj => ?_))
      by_cases hjn : j < n
      · have := H j hj hjn
        rw [bit_test] at this
        cases h : D.testBit j with
        | false => rfl
        | true => rw [h] at this; simp at this
      · exact Nat.testBit_lt_two_pow (Nat.lt_of_lt_of_le hD (Nat.pow_le_pow_right (by decide) (by omega)))
    · rintro (h | h)
      · intro j h1 h2
        rw [Nat.div_eq_of_lt (Nat.lt_of_lt_of_le h (Nat.pow_le_pow_right (by decide) h1))]
      · omega
  · exact ⟨fun _ => Or.inr hin, fun _ => allB_none hin⟩
theorem allB_one {D i n : Nat} (hD : D < 2 ^ n) (hin : i ≤ n) : AllB D 1 i n ↔ 2 ^ n ≤ D + 2 ^ i := by
  have hc : 2 ^ n - 1 - D < 2 ^ n := by omega
  have hbit : ∀ j, j < n → ((2 ^ n - 1 - D) / 2 ^ j % 2 = 0 ↔ D / 2 ^ j % 2 = 1) := by
    intro j hj
    rw [bit_test, bit_test]
    have e : 2 ^ n - 1 - D = 2 ^ n - (D + 1) := by omega
    rw [e, Nat.testBit_two_pow_sub_succ hD]
    simp only [decide_eq_true hj, Bool.true_and]
    cases D.testBit j <;> simp
  have : AllB D 1 i n ↔ AllB (2 ^ n - 1 - D) 0 i n :=
    ⟨fun H j h1 h2 => (hbit j h2).2 (H j h1 h2), fun H j h1 h2 => (hbit j h2).1 (H j h1 h2)⟩
  rw [this, allB_zero hc]
  have hp := Nat.two_pow_pos i
  constructor
  · rintro (h | h)
    · omega
    · have : i = n := by omega
      subst this; omega
  · intro h; left; omega
end Go.Proofs.YtibeoejnfpbcfaaDoor.Leb
