/- Shifted up by n a value is it times 2 to n; and, and or, together are both together; or less and is xor: for all values of 32 and of 64 bits, without a condition. -/
import Derived.Test.YtgplakhkofchiaaDoorRNumShiftsx4
import Derived.Test.YtgplakhkofchiaaDoorQNumShifts
import Derived.OpenShut
set_option linter.unusedVariables false
set_option linter.unusedSimpArgs false
namespace Go.Proofs.YtgplakhkofchiaaDoor.Pure
open Go.RowKit Go.Proofs.YtgplakhkofchiaaDoor.Man Go.Proofs.YtgplakhkofchiaaDoor.RNumShifts Go.Proofs.YtgplakhkofchiaaDoorW.PrintWords Go.Proofs.YtgplakhkofchiaaDoorW.PrintLast Go.Proofs.YtgplakhkofchiaaDoorW.PrintMore Go.Proofs.YtgplakhkofchiaaDoor.QNumShifts

theorem in_bits {x y n : Int} (hn : n = 32 ∨ n = 64) (hx : In x n) (hy : In y n) :
    In ((x.toNat &&& y.toNat : Nat) : Int) n ∧ In ((x.toNat ||| y.toNat : Nat) : Int) n ∧ In ((x.toNat ^^^ y.toNat : Nat) : Int) n := by
  obtain ⟨x0, x1, x2⟩ := hx
  obtain ⟨y0, y1, y2⟩ := hy
  have a1 : x.toNat &&& y.toNat < 2 ^ 64 := Nat.and_lt_two_pow _ (by omega)
  have o1 : x.toNat ||| y.toNat < 2 ^ 64 := Nat.or_lt_two_pow (by omega) (by omega)
  have e1 : x.toNat ^^^ y.toNat < 2 ^ 64 := Nat.xor_lt_two_pow (by omega) (by omega)
  refine ⟨⟨by omega, by omega, fun h => ?_⟩, ⟨by omega, by omega, fun h => ?_⟩, ⟨by omega, by omega, fun h => ?_⟩⟩
  · have := y2 h
    have : x.toNat &&& y.toNat < 2 ^ 32 := Nat.and_lt_two_pow _ (by omega)
    omega
  · have := x2 h
    have := y2 h
    have : x.toNat ||| y.toNat < 2 ^ 32 := Nat.or_lt_two_pow (by omega) (by omega)
    omega
  · have := x2 h
    have := y2 h
    have : x.toNat ^^^ y.toNat < 2 ^ 32 := Nat.xor_lt_two_pow (by omega) (by omega)
    omega

theorem body {base n x y : Int} (hb : Base base n) (hx : In x n) (hy : In y n) (k : Nat) (hk : 60 ≤ k) : grommetlaw03_NumShifts.j0 k x y true base n = some true := by
  have hn := hb.n
  have hb0 : 0 ≤ base ∧ base < 200 := by rcases hb with ⟨rfl, rfl⟩ | ⟨rfl, rfl⟩ <;> omega
  obtain ⟨k, rfl⟩ : ∃ j, k = j + 1 := ⟨k - 1, by omega⟩
  have y0 := hy.1
  have x0 := hx.1
  obtain ⟨r, hr, hr2⟩ : ∃ r : Nat, y % n = (r : Int) ∧ (r : Int) < n := ⟨(y % n).toNat, by rcases hn with rfl | rfl <;> omega, by rcases hn with rfl | rfl <;> omega⟩
  have hr64 : r < 64 := by rcases hn with rfl | rfl <;> omega
  have hp : shl .u64 1 (r : Int) = ((2 ^ r : Nat) : Int) := by
    unfold shl
    rw [show min (r : Int).toNat (IntKind.bits .u64) = r from by simp [IntKind.bits]; omega, wu64, Int.one_mul]
    have e1 : (2 : Int) ^ r = ((2 ^ r : Nat) : Int) := by rw [Int.natCast_pow]; rfl
    have h2 : 2 ^ r ≤ 2 ^ 63 := Nat.pow_le_pow_right (by decide) (by omega)
    rw [e1]; clear e1
    generalize (2 : Nat) ^ r = G at *
    omega
  have hin : In ((2 ^ r : Nat) : Int) n := by
    have h2 : 2 ^ r ≤ 2 ^ 63 := Nat.pow_le_pow_right (by decide) (by omega)
    refine ⟨Int.natCast_nonneg _, by omega, fun h => ?_⟩
    have : 2 ^ r ≤ 2 ^ 31 := Nat.pow_le_pow_right (by decide) (by omega)
    omega
  obtain ⟨iA, iO, iX⟩ := in_bits hn hx hy
  have hAO := and_or_add x.toNat y.toNat
  have hAX := and_xor_or x.toNat y.toNat
  obtain ⟨A, hA⟩ : ∃ A, A = x.toNat &&& y.toNat := ⟨_, rfl⟩
  obtain ⟨O, hO⟩ : ∃ O, O = x.toNat ||| y.toNat := ⟨_, rfl⟩
  obtain ⟨X, hX⟩ : ∃ X, X = x.toNat ^^^ y.toNat := ⟨_, rfl⟩
  have tA := fun k hk => (two_and hn hx hy k hk).1
  have tO := fun k hk => (two_and hn hx hy k hk).2.1
  have tX := fun k hk => (two_and hn hx hy k hk).2.2
  rw [← hA] at iA tA hAO hAX
  rw [← hO] at iO tO hAO hAX
  rw [← hX] at iX tX hAX
  have mod : ∀ z : Int, 0 ≤ z % 18446744073709551616 ∧ z % 18446744073709551616 < 18446744073709551616 := fun z => by omega
  rw [grommetlaw03_NumShifts.j0]
  rw [w64 (base + 10) (by omega) (by omega), w64 (base + 2) (by omega) (by omega), w64 (base + 7) (by omega) (by omega), w64 (base + 8) (by omega) (by omega), w64 (base + 9) (by omega) (by omega), w64 (base + 1) (by omega) (by omega)]
  rw [Int.tmod_eq_emod_of_nonneg y0, hr, hp]
  rw [ev hb hx hy 10 (by omega) (base + 10) (by omega) k (by omega) (fun k hk => two_shl hn hx hy k (by omega)) (mod _).1 (mod _).2]
  rw [ev hb hx hin 2 (by omega) (base + 2) (by omega) k (by omega) (fun k hk => (two_plain hn hx hin k (by omega)).2.2) (mod _).1 (mod _).2]
  rw [ev hb hx hy 7 (by omega) (base + 7) (by omega) k (by omega) (fun k hk => tA k (by omega)) iA.1 iA.2.1]
  rw [ev hb hx hy 8 (by omega) (base + 8) (by omega) k (by omega) (fun k hk => tO k (by omega)) iO.1 iO.2.1]
  rw [ev hb hx hy 9 (by omega) (base + 9) (by omega) k (by omega) (fun k hk => tX k (by omega)) iX.1 iX.2.1]
  rw [ev hb hx hy 0 (by omega) base (by omega) k (by omega) (fun k hk => (two_plain hn hx hy k (by omega)).1) (mod _).1 (mod _).2]
  rw [cut_of_in iA, cut_of_in iO, cut_of_in iX]
  simp only [Option.bind_some]
  rw [if_neg (by rcases hn with rfl | rfl <;> omega), if_pos (by omega)]
  rw [ev hb iA iO 0 (by omega) base (by omega) k (by omega) (fun k hk => (two_plain hn iA iO k (by omega)).1) (mod _).1 (mod _).2]
  rw [ev hb iO iA 1 (by omega) (base + 1) (by omega) k (by omega) (fun k hk => (two_plain hn iO iA k (by omega)).2.1) (mod _).1 (mod _).2]
  simp only [Option.bind_some, Option.isNone_none, if_true]
  rw [hr, show ((r : Int)).toNat = r from rfl]
  rw [if_pos (by rw [Int.natCast_pow]; rfl), if_pos (by congr 2; omega)]
  rw [show ((O : Int) - (A : Int)) % 18446744073709551616 = (X : Int) from by have := iX.2.1; omega, cut_of_in iX]
  simp

theorem NumShifts : grommetlaw03_NumShifts.Pure := by
  intro a b wide wa wb
  have ha := bounds_u64 wa
  have hb := bounds_u64 wb
  refine ⟨100, ?_⟩
  unfold grommetlaw03_NumShifts.f
  rw [up_f 100 (by omega)]
  simp only [Option.bind_some]
  cases wide with
  | true =>
    rw [if_pos rfl]
    exact body (n := 64) (.inr ⟨rfl, rfl⟩) ⟨by omega, by omega, fun h => by omega⟩ ⟨by omega, by omega, fun h => by omega⟩ 100 (by omega)
  | false =>
    rw [if_neg (by decide), Int.tmod_eq_emod_of_nonneg ha.1, Int.tmod_eq_emod_of_nonneg hb.1]
    exact body (n := 32) (.inl ⟨rfl, rfl⟩) ⟨by omega, by omega, fun h => by omega⟩ ⟨by omega, by omega, fun h => by omega⟩ 100 (by omega)

end Go.Proofs.YtgplakhkofchiaaDoor.Pure
