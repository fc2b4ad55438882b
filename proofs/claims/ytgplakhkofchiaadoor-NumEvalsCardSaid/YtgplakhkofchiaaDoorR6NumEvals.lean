import Derived.Test.YtgplakhkofchiaaDoorR3NumEvals
set_option linter.unusedVariables false
set_option linter.unusedSimpArgs false
namespace Go.Proofs.YtgplakhkofchiaaDoor.QNumEvals
open Go.RowKit Go.Proofs.YtgplakhkofchiaaDoor.RNumEvals Go.Proofs.YtgplakhkofchiaaDoorW.PrintWords Go.Proofs.YtgplakhkofchiaaDoorW.PrintLast

/-! ### a number's length -/
def tab : ByteArray := (⟨#[0, 1, 2, 2, 3, 3, 3, 3, 4, 4, 4, 4, 4, 4, 4, 4, 5, 5, 5, 5, 5, 5, 5, 5, 5, 5, 5, 5, 5, 5, 5, 5, 6, 6, 6, 6, 6, 6, 6, 6, 6, 6, 6, 6, 6, 6, 6, 6, 6, 6, 6, 6, 6, 6, 6, 6, 6, 6, 6, 6, 6, 6, 6, 6, 7, 7, 7, 7, 7, 7, 7, 7, 7, 7, 7, 7, 7, 7, 7, 7, 7, 7, 7, 7, 7, 7, 7, 7, 7, 7, 7, 7, 7, 7, 7, 7, 7, 7, 7, 7, 7, 7, 7, 7, 7, 7, 7, 7, 7, 7, 7, 7, 7, 7, 7, 7, 7, 7, 7, 7, 7, 7, 7, 7, 7, 7, 7, 7, 8, 8, 8, 8, 8, 8, 8, 8, 8, 8, 8, 8, 8, 8, 8, 8, 8, 8, 8, 8, 8, 8, 8, 8, 8, 8, 8, 8, 8, 8, 8, 8, 8, 8, 8, 8, 8, 8, 8, 8, 8, 8, 8, 8, 8, 8, 8, 8, 8, 8, 8, 8, 8, 8, 8, 8, 8, 8, 8, 8, 8, 8, 8, 8, 8, 8, 8, 8, 8, 8, 8, 8, 8, 8, 8, 8, 8, 8, 8, 8, 8, 8, 8, 8, 8, 8, 8, 8, 8, 8, 8, 8, 8, 8, 8, 8, 8, 8, 8, 8, 8, 8, 8, 8, 8, 8, 8, 8, 8, 8, 8, 8, 8, 8, 8, 8, 8, 8, 8, 8, 8, 8, 8, 8, 8, 8, 8, 8]⟩ : ByteArray)
def isLen (x L : Nat) : Prop := x < 2 ^ L ∧ (L = 0 ∨ 2 ^ (L - 1) ≤ x)
instance (x L : Nat) : Decidable (isLen x L) := inferInstanceAs (Decidable (_ ∧ _))
theorem tab_len : ∀ i : Fin 256, 0 ≤ bt tab (i.val : Int) ∧ bt tab (i.val : Int) ≤ 8 ∧ (i.val ≠ 0 → 1 ≤ bt tab (i.val : Int)) ∧ isLen i.val (bt tab (i.val : Int)).toNat := by decide +kernel
theorem isLen_up {x L s : Nat} (h : isLen (x / 2 ^ s) L) (h1 : 1 ≤ L) : isLen x (L + s) := by
  obtain ⟨a, b⟩ := h
  refine ⟨?_, .inr ?_⟩
  · rw [Nat.pow_add]; exact (Nat.div_lt_iff_lt_mul (Nat.two_pow_pos s)).1 a
  · have c := b.resolve_left (by omega)
    rw [show L + s - 1 = (L - 1) + s from by omega, Nat.pow_add]
    exact (Nat.le_div_iff_mul_le (Nat.two_pow_pos s)).1 c
set_option maxRecDepth 8192 in
theorem len_j0 (x : Nat) (hx : x < 4294967296) (c : Int) (hc : 0 ≤ c ∧ c ≤ 32) (k : Nat) : ∃ L : Nat, bits_Len64.j0 (k + 1) (x : Int) c = some (c + (L : Int)) ∧ L ≤ 32 ∧ isLen x L ∧ (x ≠ 0 → 1 ≤ L) := by
  have t : ∀ i : Nat, i < 256 → ∃ L : Nat, bt tab (i : Int) = (L : Int) ∧ L ≤ 8 ∧ (i ≠ 0 → 1 ≤ L) ∧ isLen i L := by
    intro i hi
    obtain ⟨h0, h1, h2, h3⟩ := tab_len ⟨i, hi⟩
    obtain ⟨L, hL⟩ := Int.eq_ofNat_of_zero_le h0
    have hL' : bt tab (i : Int) = (L : Int) := hL
    refine ⟨L, hL', ?_, ?_, ?_⟩
    · rw [hL] at h1; omega
    · intro q; have := h2 q; rw [hL] at this; omega
    · rw [hL] at h3; exact h3
  rw [bits_Len64.j0]
  rw [show (⟨#[0, 1, 2, 2, 3, 3, 3, 3, 4, 4, 4, 4, 4, 4, 4, 4, 5, 5, 5, 5, 5, 5, 5, 5, 5, 5, 5, 5, 5, 5, 5, 5, 6, 6, 6, 6, 6, 6, 6, 6, 6, 6, 6, 6, 6, 6, 6, 6, 6, 6, 6, 6, 6, 6, 6, 6, 6, 6, 6, 6, 6, 6, 6, 6, 7, 7, 7, 7, 7, 7, 7, 7, 7, 7, 7, 7, 7, 7, 7, 7, 7, 7, 7, 7, 7, 7, 7, 7, 7, 7, 7, 7, 7, 7, 7, 7, 7, 7, 7, 7, 7, 7, 7, 7, 7, 7, 7, 7, 7, 7, 7, 7, 7, 7, 7, 7, 7, 7, 7, 7, 7, 7, 7, 7, 7, 7, 7, 7, 8, 8, 8, 8, 8, 8, 8, 8, 8, 8, 8, 8, 8, 8, 8, 8, 8, 8, 8, 8, 8, 8, 8, 8, 8, 8, 8, 8, 8, 8, 8, 8, 8, 8, 8, 8, 8, 8, 8, 8, 8, 8, 8, 8, 8, 8, 8, 8, 8, 8, 8, 8, 8, 8, 8, 8, 8, 8, 8, 8, 8, 8, 8, 8, 8, 8, 8, 8, 8, 8, 8, 8, 8, 8, 8, 8, 8, 8, 8, 8, 8, 8, 8, 8, 8, 8, 8, 8, 8, 8, 8, 8, 8, 8, 8, 8, 8, 8, 8, 8, 8, 8, 8, 8, 8, 8, 8, 8, 8, 8, 8, 8, 8, 8, 8, 8, 8, 8, 8, 8, 8, 8, 8, 8, 8, 8, 8, 8]⟩ : ByteArray) = tab from rfl]
  by_cases h1 : (x : Int) ≥ 65536
  · rw [if_pos h1]
    by_cases h2 : (x : Int) / 65536 ≥ 256
    · obtain ⟨L, e, le, pos, il⟩ := t (x / 16777216) (by omega)
      have hp := pos (by omega)
      rw [if_pos h2, show (x : Int) / 65536 / 256 % 256 = ((x / 16777216 : Nat) : Int) from by omega, if_pos (by omega), if_pos (by omega), e, w64 L (by omega) (by omega), w64 _ (by rw [w64 _ (by rw [w64 _ (by omega) (by omega)]; omega) (by rw [w64 _ (by omega) (by omega)]; omega), w64 _ (by omega) (by omega)]; omega) (by rw [w64 _ (by rw [w64 _ (by omega) (by omega)]; omega) (by rw [w64 _ (by omega) (by omega)]; omega), w64 _ (by omega) (by omega)]; omega)]
      rw [w64 _ (by rw [w64 _ (by omega) (by omega)]; omega) (by rw [w64 _ (by omega) (by omega)]; omega), w64 _ (by omega) (by omega)]
      exact ⟨L + 24, by congr 1; omega, by omega, isLen_up il hp, fun _ => by omega⟩
    · obtain ⟨L, e, le, pos, il⟩ := t (x / 65536) (by omega)
      have hp := pos (by omega)
      rw [if_neg h2, show (x : Int) / 65536 % 256 = ((x / 65536 : Nat) : Int) from by omega, if_pos (by omega), if_pos (by omega), e, w64 L (by omega) (by omega), w64 (c + 16) (by omega) (by omega), w64 _ (by omega) (by omega)]
      exact ⟨L + 16, by congr 1; omega, by omega, isLen_up il hp, fun _ => by omega⟩
  · rw [if_neg h1]
    by_cases h2 : (x : Int) ≥ 256
    · obtain ⟨L, e, le, pos, il⟩ := t (x / 256) (by omega)
      have hp := pos (by omega)
      rw [if_pos h2, show (x : Int) / 256 % 256 = ((x / 256 : Nat) : Int) from by omega, if_pos (by omega), if_pos (by omega), e, w64 L (by omega) (by omega), w64 (c + 8) (by omega) (by omega), w64 _ (by omega) (by omega)]
      exact ⟨L + 8, by congr 1; omega, by omega, isLen_up il hp, fun _ => by omega⟩
    · obtain ⟨L, e, le, pos, il⟩ := t x (by omega)
      rw [if_neg h2, show (x : Int) % 256 = (x : Int) from by omega, if_pos (by omega), if_pos (by omega), e, w64 L (by omega) (by omega), w64 _ (by omega) (by omega)]
      exact ⟨L, rfl, by omega, il, pos⟩
theorem len_f (x : Nat) (hx : x < 18446744073709551616) (k : Nat) : ∃ L : Nat, bits_Len64.f (k + 1) (x : Int) = some (L : Int) ∧ L ≤ 64 ∧ isLen x L := by
  unfold bits_Len64.f
  by_cases h : (x : Int) ≥ 4294967296
  · obtain ⟨L, e, le, il, pos⟩ := len_j0 (x / 4294967296) (by omega) 32 (by omega) k
    rw [if_pos h, show (x : Int) / 4294967296 = ((x / 4294967296 : Nat) : Int) from by omega, e]
    exact ⟨L + 32, by congr 1; omega, by omega, isLen_up il (pos (by omega))⟩
  · obtain ⟨L, e, le, il, pos⟩ := len_j0 x (by omega) 0 (by omega) k
    rw [if_neg h, e]
    exact ⟨L, by congr 1; omega, by omega, il⟩

end Go.Proofs.YtgplakhkofchiaaDoor.QNumEvals
