import Derived.Test.YtgplakhkofchiaaDoorR3NumEvals
set_option linter.unusedVariables false
set_option linter.unusedSimpArgs false
namespace Go.Proofs.YtgplakhkofchiaaDoor.QNumEvals
open Go.RowKit Go.Proofs.YtgplakhkofchiaaDoor.RNumEvals Go.Proofs.YtgplakhkofchiaaDoorW.PrintWords Go.Proofs.YtgplakhkofchiaaDoorW.PrintLast

/-! ### how many bits are set: the sum in ever wider digits -/
theorem and_split (w c m x : Nat) (hc : c < 2 ^ w) : x &&& (c + 2 ^ w * m) = (x % 2 ^ w &&& c) + 2 ^ w * (x / 2 ^ w &&& m) := by
  have h1 := Nat.div_add_mod (x &&& (c + 2 ^ w * m)) (2 ^ w)
  rw [Nat.and_div_two_pow, Nat.and_mod_two_pow, Nat.add_mul_div_left _ _ (Nat.two_pow_pos w), Nat.div_eq_of_lt hc, Nat.zero_add, Nat.add_mul_mod_self_left, Nat.mod_eq_of_lt hc] at h1
  omega
theorem and4 (m x : Nat) : x &&& (1 + 4 * m) = x % 2 + 4 * (x / 4 &&& m) := by
  have := and_split 2 1 m x (by decide)
  rw [show (2 : Nat) ^ 2 = 4 from rfl, show x % 4 &&& 1 = x % 4 % 2 from Nat.and_two_pow_sub_one_eq_mod (x % 4) 1] at this
  omega
theorem and16 (m x : Nat) : x &&& (3 + 16 * m) = x % 4 + 16 * (x / 16 &&& m) := by
  have := and_split 4 3 m x (by decide)
  rw [show (2 : Nat) ^ 4 = 16 from rfl, show x % 16 &&& 3 = x % 16 % 4 from Nat.and_two_pow_sub_one_eq_mod (x % 16) 2] at this
  omega
theorem and256 (m x : Nat) : x &&& (15 + 256 * m) = x % 16 + 256 * (x / 256 &&& m) := by
  have := and_split 8 15 m x (by decide)
  rw [show (2 : Nat) ^ 8 = 256 from rfl, show x % 256 &&& 15 = x % 256 % 16 from Nat.and_two_pow_sub_one_eq_mod (x % 256) 4] at this
  omega
def m0 : Nat → Nat | 0 => 0 | n + 1 => 1 + 4 * m0 n
def m1 : Nat → Nat | 0 => 0 | n + 1 => 3 + 16 * m1 n
def m2 : Nat → Nat | 0 => 0 | n + 1 => 15 + 256 * m2 n
def d2 (a : Nat) : Nat := a % 2 + a / 2 % 2
def d4 (a : Nat) : Nat := d2 a + d2 (a / 4)
def d8 (a : Nat) : Nat := d4 a + d4 (a / 16)
def f2 : Nat → Nat → Nat | 0, _ => 0 | n + 1, a => d2 a + 4 * f2 n (a / 4)
def f4 : Nat → Nat → Nat | 0, _ => 0 | n + 1, a => d4 a + 16 * f4 n (a / 16)
def f8 : Nat → Nat → Nat | 0, _ => 0 | n + 1, a => d8 a + 256 * f8 n (a / 256)
theorem d2_le (a : Nat) : d2 a ≤ 2 := by unfold d2; omega
theorem d4_le (a : Nat) : d4 a ≤ 4 := by unfold d4; have := d2_le a; have := d2_le (a / 4); omega
theorem d8_le (a : Nat) : d8 a ≤ 8 := by unfold d8; have := d4_le a; have := d4_le (a / 16); omega
theorem st1 : ∀ n a, (a / 2 &&& m0 n) + (a &&& m0 n) = f2 n a
  | 0, a => by simp [m0, f2]
  | n + 1, a => by
    have := st1 n (a / 4)
    rw [m0, and4, and4, f2, ← this, show a / 2 / 4 = a / 4 / 2 from by omega]
    unfold d2
    omega
theorem st2 : ∀ n a, (f2 (2 * n) a / 4 &&& m1 n) + (f2 (2 * n) a &&& m1 n) = f4 n a
  | 0, a => by simp [m1, f4]
  | n + 1, a => by
    have ih := st2 n (a / 16)
    have e : f2 (2 * (n + 1)) a = d2 a + 4 * (d2 (a / 4) + 4 * f2 (2 * n) (a / 16)) := by
      rw [show 2 * (n + 1) = 2 * n + 1 + 1 from by omega, f2, f2, show a / 4 / 4 = a / 16 from by omega]
    have h1 := d2_le a
    have h2 := d2_le (a / 4)
    rw [e, m1, and16, and16, f4, ← ih]
    generalize f2 (2 * n) (a / 16) = F
    unfold d4
    generalize d2 a = u at *
    generalize d2 (a / 4) = v at *
    rw [show (u + 4 * (v + 4 * F)) / 4 / 16 = F / 4 from by omega, show (u + 4 * (v + 4 * F)) / 16 = F from by omega]
    omega
theorem f4_low : ∀ n a, f4 n a % 16 ≤ 4
  | 0, _ => by simp [f4]
  | n + 1, a => by have := d4_le a; rw [f4]; omega
theorem st3 : ∀ n a, (f4 (2 * n) a / 16 + f4 (2 * n) a) &&& m2 n = f8 n a
  | 0, a => by simp [m2, f8]
  | n + 1, a => by
    have ih := st3 n (a / 256)
    have e : f4 (2 * (n + 1)) a = d4 a + 16 * (d4 (a / 16) + 16 * f4 (2 * n) (a / 256)) := by
      rw [show 2 * (n + 1) = 2 * n + 1 + 1 from by omega, f4, f4, show a / 16 / 16 = a / 256 from by omega]
    have h1 := d4_le a
    have h2 := d4_le (a / 16)
    have h3 := f4_low (2 * n) (a / 256)
    rw [e, m2, and256, f8, ← ih]
    generalize f4 (2 * n) (a / 256) = F at *
    unfold d8
    generalize d4 a = u at *
    generalize d4 (a / 16) = v at *
    rw [show ((u + 16 * (v + 16 * F)) / 16 + (u + 16 * (v + 16 * F))) / 256 = F / 16 + F from by omega]
    omega
/-- How many of the first n bits are set. -/
def pcr : Nat → Nat → Nat | 0, _ => 0 | n + 1, a => a % 2 + pcr n (a / 2)
theorem pcr8 (n a : Nat) : pcr (n + 8) a = d8 a + pcr n (a / 256) := by
  rw [pcr, pcr, pcr, pcr, pcr, pcr, pcr, pcr]
  rw [show a / 2 / 2 / 2 / 2 / 2 / 2 / 2 / 2 = a / 256 from by omega]
  unfold d8 d4 d2
  omega
theorem ones_nat (a : Nat) (ha : a < 18446744073709551616) : let s3 := f8 8 a; let s4 := s3 + s3 / 256; let s5 := s4 + s4 / 65536; (s5 + s5 / 4294967296) % 128 = pcr 64 a ∧ s5 + s5 / 4294967296 < 9223372036854775808 := by
  have p : pcr 64 a = d8 a + (d8 (a / 256) + (d8 (a / 256 / 256) + (d8 (a / 256 / 256 / 256) + (d8 (a / 256 / 256 / 256 / 256) + (d8 (a / 256 / 256 / 256 / 256 / 256) + (d8 (a / 256 / 256 / 256 / 256 / 256 / 256) + d8 (a / 256 / 256 / 256 / 256 / 256 / 256 / 256))))))) := by
    rw [show 64 = 56 + 8 from rfl, pcr8, show 56 = 48 + 8 from rfl, pcr8, show 48 = 40 + 8 from rfl, pcr8, show 40 = 32 + 8 from rfl, pcr8, show 32 = 24 + 8 from rfl, pcr8, show 24 = 16 + 8 from rfl, pcr8, show 16 = 8 + 8 from rfl, pcr8, show pcr 8 (a / 256 / 256 / 256 / 256 / 256 / 256 / 256) = pcr (0 + 8) (a / 256 / 256 / 256 / 256 / 256 / 256 / 256) from rfl, pcr8]
    rfl
  have q : f8 8 a = d8 a + 256 * (d8 (a / 256) + 256 * (d8 (a / 256 / 256) + 256 * (d8 (a / 256 / 256 / 256) + 256 * (d8 (a / 256 / 256 / 256 / 256) + 256 * (d8 (a / 256 / 256 / 256 / 256 / 256) + 256 * (d8 (a / 256 / 256 / 256 / 256 / 256 / 256) + 256 * d8 (a / 256 / 256 / 256 / 256 / 256 / 256 / 256))))))) := by
    rw [f8, f8, f8, f8, f8, f8, f8, f8, f8, Nat.mul_zero, Nat.add_zero]
  rw [p, q]
  have b0 := d8_le a
  have b1 := d8_le (a / 256)
  have b2 := d8_le (a / 256 / 256)
  have b3 := d8_le (a / 256 / 256 / 256)
  have b4 := d8_le (a / 256 / 256 / 256 / 256)
  have b5 := d8_le (a / 256 / 256 / 256 / 256 / 256)
  have b6 := d8_le (a / 256 / 256 / 256 / 256 / 256 / 256)
  have b7 := d8_le (a / 256 / 256 / 256 / 256 / 256 / 256 / 256)
  generalize d8 a = c0 at *
  generalize d8 (a / 256) = c1 at *
  generalize d8 (a / 256 / 256) = c2 at *
  generalize d8 (a / 256 / 256 / 256) = c3 at *
  generalize d8 (a / 256 / 256 / 256 / 256) = c4 at *
  generalize d8 (a / 256 / 256 / 256 / 256 / 256) = c5 at *
  generalize d8 (a / 256 / 256 / 256 / 256 / 256 / 256) = c6 at *
  generalize d8 (a / 256 / 256 / 256 / 256 / 256 / 256 / 256) = c7 at *
  clear p q
  obtain ⟨X7, h7⟩ : ∃ e, e = c7 := ⟨_, rfl⟩
  obtain ⟨X6, h6⟩ : ∃ e, e = c6 + 256 * X7 := ⟨_, rfl⟩
  obtain ⟨X5, h5⟩ : ∃ e, e = c5 + 256 * X6 := ⟨_, rfl⟩
  obtain ⟨X4, h4⟩ : ∃ e, e = c4 + 256 * X5 := ⟨_, rfl⟩
  obtain ⟨X3, h3⟩ : ∃ e, e = c3 + 256 * X4 := ⟨_, rfl⟩
  obtain ⟨X2, h2⟩ : ∃ e, e = c2 + 256 * X3 := ⟨_, rfl⟩
  obtain ⟨X1, h1⟩ : ∃ e, e = c1 + 256 * X2 := ⟨_, rfl⟩
  rw [← h7, ← h6, ← h5, ← h4, ← h3, ← h2, ← h1]
  intro s3 s4 s5
  have e3 : s3 = c0 + 256 * X1 := rfl
  have e4 : s4 = s3 + s3 / 256 := rfl
  have e5 : s5 = s4 + s4 / 65536 := rfl
  clear_value s3 s4 s5
  have v3 : s3 / 256 = X1 := by clear h1 h2 h3 h4 h5 h6 h7 e4 e5; omega
  rw [v3] at e4
  have v4 : s4 / 65536 = X2 + X3 := by
    have r : s4 = (c0 + c1 + 256 * (c1 + c2)) + 65536 * (X2 + X3) := by omega
    clear h1 h2 h3 h4 h5 h6 h7 e3 e4 e5
    generalize X2 + X3 = Y at *
    omega
  rw [v4] at e5
  have v5 : s5 / 4294967296 = X4 + X5 + X6 + X7 := by
    have r : s5 = ((c0 + c1 + c2 + c3) + 256 * (c1 + c2 + c3 + c4) + 65536 * (c2 + c3 + c4 + c5) + 16777216 * (c3 + c4 + c5 + c6)) + 4294967296 * (X4 + X5 + X6 + X7) := by omega
    clear h1 h2 h3 h4 h5 h6 h7 e3 e4 e5 v3 v4
    generalize X4 + X5 + X6 + X7 = Y at *
    omega
  rw [v5]
  have r : s5 + (X4 + X5 + X6 + X7) = (c0 + c1 + c2 + c3 + c4 + c5 + c6 + c7) + 128 * (2 * ((c1 + c2 + c3 + c4) + 256 * (X2 + X3 + X4 + X5) + (X5 + X6 + X7))) := by omega
  have hX7 : X7 ≤ 8 := by omega
  have hX6 : X6 ≤ 2100 := by omega
  have hX5 : X5 ≤ 540000 := by omega
  have hX4 : X4 ≤ 140000000 := by omega
  have hX3 : X3 ≤ 36000000000 := by omega
  have hX2 : X2 ≤ 9300000000000 := by omega
  constructor
  · rw [r]; clear h1 h2 h3 h4 h5 h6 e3 e4 e5 v3 v4 v5 r
    generalize 2 * ((c1 + c2 + c3 + c4) + 256 * (X2 + X3 + X4 + X5) + (X5 + X6 + X7)) = Z
    omega
  · rw [r]; clear h1 h2 h3 h4 h5 h6 e3 e4 e5 v3 v4 v5 r; omega

end Go.Proofs.YtgplakhkofchiaaDoor.QNumEvals
