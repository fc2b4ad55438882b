/- math/bits.TrailingZeros64 by a contract in the printed texts' form: it reads the package-level table, which the row lists. -/
import Derived.Test.YtgplakhkofchiaaDoorProg
import Derived.WalkKit
import Derived.Below
import Derived.Laws.Bits64b
import Derived.Lib.TrailingZeros
import Derived.Test.YtgplakhkofchiaaDoorWMore
set_option linter.unusedVariables false
set_option linter.unusedSimpArgs false
namespace Go.Proofs.YtgplakhkofchiaaDoor.Man
open Go.RowKit Go.Proofs.YtgplakhkofchiaaDoorW.PrintWords

/-- The table's cells, as the program's text lays them. -/
def GL (w : World) : Prop := ∀ j, j < 64 → w.cell? ⟨0, j, none⟩ = some (.int .u8 ((Lib.deBruijn64tab.getD j 0 : Nat) : Int))
theorem GL_at {w W : World} (h : GL w) (hb : Below w.heap.size w W) : GL W := fun j hj => pw_cell_below hb (h j hj)
theorem GL_drewN {w : World} (h : GL w) (n : Nat) : GL (w.drewN n) := h

def bits_TrailingZeros64.f (a0 : Int) : Option Int := if 0 ≤ a0 ∧ a0 < 18446744073709551616 then some ((Lib.ctz 64 a0.toNat : Nat) : Int) else none

set_option maxHeartbeats 1000000 in
theorem core (x k idx : Nat) (w : World) (hx0 : ((x : Int) == 0) = false)
    (key : IntKind.u64.wrap (bits BinOp.and IntKind.u64 (x : Int) (IntKind.u64.wrap (-(x : Int))) * 285870213051353865) / 288230376151711744 = (idx : Int))
    (hi : idx < 64) (hk : k < 64) (hcell : w.cell? ⟨0, idx, none⟩ = some (.int .u8 k)) :
    Calls Tryd.prog 29 #[.int .u64 x] w fun e w' => e = .returned (.int .i64 k) ∧ w' = w := by
  go_enter Tryd.func29, Tryd.ntmps29
  go_wp2_with (simp only [key])
  go_ret
  exact ⟨rfl, rfl⟩
theorem zero (w : World) : Calls Tryd.prog 29 #[.int .u64 0] w fun e w' => e = .returned (.int .i64 64) ∧ w' = w := by
  go_enter Tryd.func29, Tryd.ntmps29
  go_wp2
  go_ret
  exact ⟨rfl, rfl⟩
theorem key (x a : Nat) (hx : x < 18446744073709551616) (hx0 : x ≠ 0) (hlow : x &&& (18446744073709551616 - x) = a) :
    IntKind.u64.wrap (bits BinOp.and IntKind.u64 (x : Int) (IntKind.u64.wrap (-(x : Int))) * 285870213051353865) / 288230376151711744 = ((a * 285870213051353865 % 18446744073709551616 / 288230376151711744 : Nat) : Int) := by
  have e1 : IntKind.u64.wrap (-(x : Int)) = ((18446744073709551616 - x : Nat) : Int) := by rw [IntKind.wrap_u64]; omega
  rw [e1, bits_and_u64_nat x _ hx (by omega), hlow, IntKind.wrap_u64]
  omega

theorem bits_TrailingZeros64.calls (a0 : Int) (r : Int) (w : World) (hG : GL w) (h : bits_TrailingZeros64.f a0 = some r) :
    Calls Tryd.prog 29 #[.int .u64 a0] w fun e w' => e = .returned (.int .i64 r) ∧ Drawn0 w w' := by
  unfold bits_TrailingZeros64.f at h
  split at h
  · rename_i hr
    obtain ⟨x, rfl⟩ := Int.eq_ofNat_of_zero_le hr.1
    obtain rfl := Option.some.inj h
    rw [show ((x : Int)).toNat = x from rfl]
    by_cases hx0 : x = 0
    · subst hx0
      exact (zero w).mono fun e w' ⟨he, hw⟩ => ⟨he, by subst hw; exact Drawn0.refl _⟩
    · obtain ⟨hlow, hk⟩ := Lib.lowest_bit 64 x hx0 (by omega)
      obtain ⟨hi, htab⟩ := Lib.deBruijn64_at _ hk
      have hcell := hG _ hi
      rw [htab] at hcell
      exact (core x _ _ w (by simp; omega) (key x _ (by omega) hx0 hlow) hi hk hcell).mono fun e w' ⟨he, hw⟩ => ⟨he, by subst hw; exact Drawn0.refl _⟩
  · cases h
end Go.Proofs.YtgplakhkofchiaaDoor.Man
