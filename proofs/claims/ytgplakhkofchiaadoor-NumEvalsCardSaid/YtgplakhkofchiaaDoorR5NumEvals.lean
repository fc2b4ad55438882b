import Derived.Test.YtgplakhkofchiaaDoorR4NumEvals
set_option linter.unusedVariables false
set_option linter.unusedSimpArgs false
namespace Go.Proofs.YtgplakhkofchiaaDoor.QNumEvals
open Go.RowKit Go.Proofs.YtgplakhkofchiaaDoor.RNumEvals Go.Proofs.YtgplakhkofchiaaDoorW.PrintWords Go.Proofs.YtgplakhkofchiaaDoorW.PrintLast

theorem wu_nat (z : Nat) (h : z < 18446744073709551616) : IntKind.u64.wrap ((z : Nat) : Int) = (z : Int) := by rw [wu64]; omega
theorem ones_f (a : Nat) (ha : a < 18446744073709551616) : bits_OnesCount64.f (a : Int) = some ((pcr 64 a : Nat) : Int) := by
  have n1 : ∀ x c : Nat, x < 18446744073709551616 → c < 18446744073709551616 → Go.bits .and .u64 (x : Int) (c : Int) = ((x &&& c : Nat) : Int) := fun x c hx hc => (nat64 x c hx hc).1
  have k0 : m0 32 = 6148914691236517205 := by decide +kernel
  have k1 : m1 16 = 3689348814741910323 := by decide +kernel
  have k2 : m2 8 = 1085102592571150095 := by decide +kernel
  have S1 := st1 32 a
  have S2 := st2 16 a
  have S3 := st3 8 a
  rw [k0] at S1
  rw [k1] at S2
  rw [k2] at S3
  rw [show 2 * 16 = 32 from rfl] at S2
  rw [show 2 * 8 = 16 from rfl] at S3
  have l1 : a / 2 &&& 6148914691236517205 ≤ 6148914691236517205 := Nat.and_le_right
  have l1' : a &&& 6148914691236517205 ≤ 6148914691236517205 := Nat.and_le_right
  have l2 : f2 32 a / 4 &&& 3689348814741910323 ≤ 3689348814741910323 := Nat.and_le_right
  have l2' : f2 32 a &&& 3689348814741910323 ≤ 3689348814741910323 := Nat.and_le_right
  have l3 : f4 16 a / 16 + f4 16 a &&& 1085102592571150095 ≤ 1085102592571150095 := Nat.and_le_right
  obtain ⟨R, RL⟩ := ones_nat a ha
  have s1 : IntKind.u64.wrap ((Go.bits .and .u64 ((a : Int) / 2) 6148914691236517205) + (Go.bits .and .u64 (a : Int) 6148914691236517205)) = ((f2 32 a : Nat) : Int) := by
    rw [show (a : Int) / 2 = ((a / 2 : Nat) : Int) from by omega, show (6148914691236517205 : Int) = ((6148914691236517205 : Nat) : Int) from rfl, n1 _ _ (by omega) (by decide), n1 _ _ (by omega) (by decide), ← Int.natCast_add, S1, wu_nat _ (by omega)]
  have s2 : IntKind.u64.wrap ((Go.bits .and .u64 (((f2 32 a : Nat) : Int) / 4) 3689348814741910323) + (Go.bits .and .u64 ((f2 32 a : Nat) : Int) 3689348814741910323)) = ((f4 16 a : Nat) : Int) := by
    rw [show ((f2 32 a : Nat) : Int) / 4 = ((f2 32 a / 4 : Nat) : Int) from by omega, show (3689348814741910323 : Int) = ((3689348814741910323 : Nat) : Int) from rfl, n1 _ _ (by omega) (by decide), n1 _ _ (by omega) (by decide), ← Int.natCast_add, S2, wu_nat _ (by omega)]
  have s3 : Go.bits .and .u64 (IntKind.u64.wrap (((f4 16 a : Nat) : Int) / 16 + ((f4 16 a : Nat) : Int))) 1085102592571150095 = ((f8 8 a : Nat) : Int) := by
    rw [show ((f4 16 a : Nat) : Int) / 16 + ((f4 16 a : Nat) : Int) = ((f4 16 a / 16 + f4 16 a : Nat) : Int) from by omega, wu_nat _ (by omega), show (1085102592571150095 : Int) = ((1085102592571150095 : Nat) : Int) from rfl, n1 _ _ (by omega) (by decide), S3]
  have step : ∀ (z c : Nat), z + z / c < 18446744073709551616 → IntKind.u64.wrap (((z : Nat) : Int) + ((z : Nat) : Int) / (c : Int)) = ((z + z / c : Nat) : Int) := by
    intro z c h
    rw [← wu_nat _ h, Int.natCast_add, Int.natCast_ediv]
  unfold bits_OnesCount64.f
  rw [s1, s2, s3]
  generalize f8 8 a = z at *
  rw [show (256 : Int) = ((256 : Nat) : Int) from rfl, step z 256 (by omega)]
  rw [show (65536 : Int) = ((65536 : Nat) : Int) from rfl, step (z + z / 256) 65536 (by omega)]
  rw [show (4294967296 : Int) = ((4294967296 : Nat) : Int) from rfl, step _ 4294967296 (by omega)]
  rw [w64 _ (by omega) (by omega)]
  have hb := (bits_nat .i64 63 (by decide) (fun n h0 h => by rw [IntKind.wrap_i64]; omega) (z + z / 256 + (z + z / 256) / 65536 + (z + z / 256 + (z + z / 256) / 65536) / 4294967296) 127 (by omega) (by decide)).1
  rw [show (127 : Int) = ((127 : Nat) : Int) from rfl, hb, show 127 = 2 ^ 7 - 1 from rfl, Nat.and_two_pow_sub_one_eq_mod]
  rw [show 2 ^ 7 = 128 from rfl, R]


end Go.Proofs.YtgplakhkofchiaaDoor.QNumEvals
