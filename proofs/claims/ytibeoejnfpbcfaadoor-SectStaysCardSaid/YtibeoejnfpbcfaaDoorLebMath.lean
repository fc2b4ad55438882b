/- Plain facts on LEB128: the number that a row of bytes begins with ('scan'), and the rows that are written. No program in sight. -/
import Derived.RowKit
import Derived.Laws.BitsLemmas
import Derived.Test.YtibeoejnfpbcfaaDoorWMore
set_option linter.unusedVariables false
set_option linter.unusedSimpArgs false
namespace Go.Proofs.YtibeoejnfpbcfaaDoor.Leb
open Go.RowKit Go.Proofs.YtibeoejnfpbcfaaDoorW.PrintWords Go.Proofs.YtibeoejnfpbcfaaDoorW.PrintMore

def Bytes (l : List Int) : Prop := ∀ x ∈ l, 0 ≤ x ∧ x < 256

/-- The number that a row of bytes begins with, and how many bytes it has: at most n. -/
def scan : Nat → List Int → Option (Nat × Nat)
  | 0, _ => none
  | _ + 1, [] => none
  | n + 1, x :: xs => if x < 128 then some (x.toNat, 1) else (scan n xs).map fun p => (x.toNat % 128 + 128 * p.1, p.2 + 1)

theorem Bytes.tail {x : Int} {l : List Int} (h : Bytes (x :: l)) : Bytes l := fun y hy => h y (List.mem_cons_of_mem _ hy)
theorem Bytes.head {x : Int} {l : List Int} (h : Bytes (x :: l)) : 0 ≤ x ∧ x < 256 := h x (List.mem_cons_self ..)
theorem Bytes.drop {l : List Int} (h : Bytes l) (n : Nat) : Bytes (l.drop n) := fun y hy => h y (List.mem_of_mem_drop hy)
theorem Bytes.append {l m : List Int} (h : Bytes l) (h' : Bytes m) : Bytes (l ++ m) := fun y hy => by
  rcases List.mem_append.1 hy with h1 | h1
  · exact h y h1
  · exact h' y h1

theorem scan_facts : ∀ (n : Nat) (l : List Int), Bytes l → ∀ D N, scan n l = some (D, N) →
    1 ≤ N ∧ N ≤ n ∧ N ≤ l.length ∧ D < 128 ^ N ∧ l.getD (N - 1) 0 = ((D / 128 ^ (N - 1) : Nat) : Int) ∧ D / 128 ^ (N - 1) < 128
  | 0, _, _, D, N, h => by simp [scan] at h
  | _ + 1, [], _, D, N, h => by simp [scan] at h
  | n + 1, x :: xs, hb, D, N, h => by
    have hx := hb.head
    unfold scan at h
    by_cases hlt : x < 128
    · rw [if_pos hlt] at h
      simp only [Option.some.injEq, Prod.mk.injEq] at h
      obtain ⟨rfl, rfl⟩ := h
      refine ⟨by omega, by omega, by simp, by omega, ?_, ?_⟩
      · simp; omega
      · simp; omega
    · rw [if_neg hlt] at h
      cases hs : scan n xs with
      | none => rw [hs] at h; simp at h
      | some p =>
        obtain ⟨D', N'⟩ := p
        rw [hs] at h
        simp only [Option.map_some, Option.some.injEq, Prod.mk.injEq] at h
        obtain ⟨rfl, rfl⟩ := h
        obtain ⟨h1, h2, h3, h4, h5, h6⟩ := scan_facts n xs hb.tail D' N' hs
        obtain ⟨m, rfl⟩ : ∃ m, N' = m + 1 := ⟨N' - 1, by omega⟩
        have e : (x.toNat % 128 + 128 * D') / 128 ^ (m + 1 + 1 - 1) = D' / 128 ^ (m + 1 - 1) := by
          simp only [Nat.add_sub_cancel]
          rw [Nat.pow_succ', ← Nat.div_div_eq_div_mul]
          congr 1
          omega
        refine ⟨by omega, by omega, by simp only [List.length_cons]; omega, ?_, ?_, ?_⟩
        · rw [Nat.pow_succ']
          have : x.toNat % 128 < 128 := Nat.mod_lt _ (by decide)
          omega
        · rw [e, ← h5]
          simp
        · rw [e]; exact h6

/-- The value with its sign, of so many bytes. -/
def sgn (D N : Nat) : Int := if 2 * D < 128 ^ N then (D : Int) else (D : Int) - ((128 ^ N : Nat) : Int)

theorem pow128 (N : Nat) : 128 ^ N = 2 ^ (7 * N) := by rw [Nat.pow_mul]

theorem wrap_u64 (n : Int) : IntKind.u64.wrap n = n % 18446744073709551616 := by
  simp only [IntKind.wrap, IntKind.bits, IntKind.signed]; simp
theorem or_step (v d g : Nat) (hv : v < 2 ^ g) (hg : g ≤ 63) (hd : d < 128) :
    Go.bits .or .u64 (v : Int) (shl .u64 (d : Int) (g : Int)) = (((v + 2 ^ g * d) % 2 ^ 64 : Nat) : Int) := by
  have hq : 2 ^ g * 2 ^ (64 - g) = 2 ^ 64 := by rw [← Nat.pow_add]; congr 1; omega
  have e : shl .u64 (d : Int) (g : Int) = ((2 ^ g * (d % 2 ^ (64 - g)) : Nat) : Int) := by
    unfold shl
    rw [show min (g : Int).toNat (IntKind.bits .u64) = g from by simp [IntKind.bits]; omega]
    rw [wrap_u64]
    have hm : (d : Int) * 2 ^ g = ((2 ^ g * d : Nat) : Int) := by rw [Int.natCast_mul, Int.natCast_pow, Int.mul_comm]; rfl
    rw [hm]
    rw [show ((2 ^ g * d : Nat) : Int) % 18446744073709551616 = (((2 ^ g * d) % 2 ^ 64 : Nat) : Int) from by omega]
    rw [← hq, Nat.mul_mod_mul_left]
  rw [e]
  have h1 : 2 ^ g * (d % 2 ^ (64 - g)) < 2 ^ 64 := by
    rw [← hq]; exact Nat.mul_lt_mul_of_pos_left (Nat.mod_lt _ (Nat.two_pow_pos _)) (Nat.two_pow_pos _)
  have hv64 : v < 2 ^ 64 := Nat.lt_of_lt_of_le hv (Nat.pow_le_pow_right (by decide) (by omega))
  rw [(bits_nat .u64 64 (by decide) (fun n h0 h => by rw [wrap_u64]; omega) v _ hv64 h1).2]
  rw [Nat.or_comm, ← Nat.two_pow_add_eq_or_of_lt hv]
  congr 1
  have hdm : d = 2 ^ (64 - g) * (d / 2 ^ (64 - g)) + d % 2 ^ (64 - g) := (Nat.div_add_mod d _).symm
  have e2 : v + 2 ^ g * d = (2 ^ g * (d % 2 ^ (64 - g)) + v) + 2 ^ 64 * (d / 2 ^ (64 - g)) := by
    conv => lhs; rw [hdm]
    rw [Nat.mul_add, ← Nat.mul_assoc, hq]; omega
  rw [e2, Nat.add_mul_mod_self_left]
  refine (Nat.mod_eq_of_lt ?_).symm
  have h2 : d % 2 ^ (64 - g) + 1 ≤ 2 ^ (64 - g) := Nat.mod_lt _ (Nat.two_pow_pos _)
  have h3 : 2 ^ g * (d % 2 ^ (64 - g) + 1) ≤ 2 ^ g * 2 ^ (64 - g) := Nat.mul_le_mul_left _ h2
  rw [hq, Nat.mul_add] at h3
  omega

theorem and127 (x : Int) (h0 : 0 ≤ x) (h1 : x < 256) : Go.bits .and .u8 x 127 = x % 128 := bits_mask .u8 8 (by decide) wraps_u8 7 (by decide) x h0 h1
theorem and64 (x : Int) (h0 : 0 ≤ x) (h1 : x < 128) : (Go.bits .and .u8 x 64 = 0) ↔ x < 64 := by
  obtain ⟨a, rfl⟩ := Int.eq_ofNat_of_zero_le h0
  have ha : a < 128 := by omega
  have : ∀ a : Fin 128, (Go.bits .and .u8 ((a.val : Nat) : Int) 64 = 0) ↔ a.val < 64 := by decide +kernel
  have := this ⟨a, ha⟩
  simp only at this
  rw [this]; omega
theorem or128 (x : Int) (h0 : 0 ≤ x) (h1 : x < 256) : Go.bits .or .u8 x 128 = x % 128 + 128 := by
  obtain ⟨a, rfl⟩ := Int.eq_ofNat_of_zero_le h0
  have : ∀ a : Fin 256, Go.bits .or .u8 ((a.val : Nat) : Int) 128 = ((a.val : Nat) : Int) % 128 + 128 := by decide +kernel
  exact this ⟨a, by omega⟩
theorem shr_u8 (x : Nat) (s : Nat) (hs : s ≤ 8) : shr .u8 (x : Int) (s : Int) = ((x / 2 ^ s : Nat) : Int) := by
  unfold shr
  rw [show min (s : Int).toNat (IntKind.bits .u8) = s from by simp [IntKind.bits]; omega]
  push_cast; rfl

theorem w64 (n : Int) (h0 : -9223372036854775808 ≤ n) (h1 : n < 9223372036854775808) : wrap64 n = n := by unfold wrap64; omega

/-! ### what is written -/
def encU (n : Nat) : List Int := if h : n < 128 then [(n : Int)] else ((n % 128 + 128 : Nat) : Int) :: encU (n / 128)
termination_by n
decreasing_by omega

theorem encU_small {n : Nat} (h : n < 128) : encU n = [(n : Int)] := by rw [encU, dif_pos h]
theorem encU_great {n : Nat} (h : ¬ n < 128) : encU n = ((n % 128 + 128 : Nat) : Int) :: encU (n / 128) := by rw [encU, dif_neg h]
theorem encU_bytes (n : Nat) : Bytes (encU n) := by
  induction n using Nat.strongRecOn with
  | ind n ih =>
    by_cases h : n < 128
    · rw [encU_small h]; intro x hx; simp at hx; omega
    · rw [encU_great h]; intro x hx
      rcases List.mem_cons.1 hx with rfl | hx
      · omega
      · exact ih (n / 128) (by omega) x hx
/-- How long it is. -/
theorem encU_len (N : Nat) : ∀ n, 1 ≤ N → n < 128 ^ N → (encU n).length ≤ N := by
  induction N with
  | zero => intro n h; omega
  | succ N ih =>
    intro n _ h
    by_cases hs : n < 128
    · rw [encU_small hs]; simp
    · rw [encU_great hs]
      rcases Nat.eq_zero_or_pos N with rfl | hN
      · omega
      · have := ih (n / 128) hN (by rw [Nat.pow_succ] at h; omega)
        simp only [List.length_cons]; omega
theorem encU_pos (n : Nat) : 1 ≤ (encU n).length := by
  by_cases h : n < 128
  · rw [encU_small h]; simp
  · rw [encU_great h]; simp
theorem encU_below (n : Nat) : n < 128 ^ (encU n).length := by
  induction n using Nat.strongRecOn with
  | ind n ih =>
    by_cases h : n < 128
    · rw [encU_small h]; simpa using h
    · rw [encU_great h]
      have := ih (n / 128) (by omega)
      simp only [List.length_cons, Nat.pow_succ]; omega
theorem scan_encU (n : Nat) (more : List Int) : ∀ R, (encU n).length ≤ R → scan R (encU n ++ more) = some (n, (encU n).length) := by
  induction n using Nat.strongRecOn with
  | ind n ih =>
    intro R hR
    have hp := encU_pos n
    obtain ⟨R, rfl⟩ : ∃ m, R = m + 1 := ⟨R - 1, by omega⟩
    by_cases h : n < 128
    · rw [encU_small h]; simp [scan]; omega
    · rw [encU_great h] at hR ⊢
      simp only [List.cons_append, List.length_cons] at hR ⊢
      rw [scan, if_neg (by omega), ih (n / 128) (by omega) R (by omega)]
      simp only [Option.map_some, Option.some.injEq, Prod.mk.injEq, and_true]
      omega
/-- With too few bytes there is none. -/
theorem scan_encU_few (n : Nat) (more : List Int) : ∀ R, R < (encU n).length → scan R (encU n ++ more) = none := by
  induction n using Nat.strongRecOn with
  | ind n ih =>
    intro R hR
    cases R with
    | zero => rfl
    | succ R =>
      by_cases h : n < 128
      · rw [encU_small h] at hR; simp at hR
      · rw [encU_great h] at hR ⊢
        simp only [List.cons_append, List.length_cons] at hR ⊢
        rw [scan, if_neg (by omega), ih (n / 128) (by omega) R (by omega)]
        rfl

def encS (s : Int) : List Int := if h : -64 ≤ s ∧ s < 64 then [s % 128] else (s % 128 + 128) :: encS (s / 128)
termination_by s.natAbs
decreasing_by omega
theorem encS_small {s : Int} (h : -64 ≤ s ∧ s < 64) : encS s = [s % 128] := by rw [encS, dif_pos h]
theorem encS_great {s : Int} (h : ¬ (-64 ≤ s ∧ s < 64)) : encS s = (s % 128 + 128) :: encS (s / 128) := by rw [encS, dif_neg h]
theorem encS_pos (s : Int) : 1 ≤ (encS s).length := by
  by_cases h : -64 ≤ s ∧ s < 64
  · rw [encS_small h]; simp
  · rw [encS_great h]; simp
theorem encS_bytes : ∀ (m : Nat) (s : Int), s.natAbs ≤ m → Bytes (encS s) := by
  intro m
  induction m with
  | zero => intro s hs; rw [encS_small (by omega)]; intro x hx; simp at hx; omega
  | succ m ih =>
    intro s hs
    by_cases h : -64 ≤ s ∧ s < 64
    · rw [encS_small h]; intro x hx; simp at hx; omega
    · rw [encS_great h]; intro x hx
      rcases List.mem_cons.1 hx with rfl | hx
      · omega
      · exact ih (s / 128) (by omega) x hx
/-- How long it is: N bytes hold what lies within 7 N bits with a sign. -/
theorem encS_len (N : Nat) : ∀ s : Int, 1 ≤ N → -((128 ^ N : Nat) : Int) ≤ 2 * s → 2 * s < ((128 ^ N : Nat) : Int) → (encS s).length ≤ N := by
  induction N with
  | zero => intro s h; omega
  | succ N ih =>
    intro s _ h0 h1
    by_cases hs : -64 ≤ s ∧ s < 64
    · rw [encS_small hs]; simp
    · rw [encS_great hs]
      rcases Nat.eq_zero_or_pos N with rfl | hN
      · simp at h0 h1; omega
      · have e : 128 ^ (N + 1) = 128 * 128 ^ N := by rw [Nat.pow_succ, Nat.mul_comm]
        have ev : ∃ q, 128 ^ N = 2 * q := ⟨64 * 128 ^ (N - 1), by obtain ⟨m, rfl⟩ : ∃ m, N = m + 1 := ⟨N - 1, by omega⟩; simp only [Nat.add_sub_cancel]; rw [Nat.pow_succ]; omega⟩
        obtain ⟨q, hq⟩ := ev
        have := ih (s / 128) hN (by omega) (by omega)
        simp only [List.length_cons]; omega
/-- Read again it is what it was, whatever stands behind. -/
theorem scan_encS (more : List Int) : ∀ (m : Nat) (s : Int), s.natAbs ≤ m → ∀ R, (encS s).length ≤ R → ∃ D, scan R (encS s ++ more) = some (D, (encS s).length) ∧ sgn D (encS s).length = s := by
  intro m
  induction m with
  | zero =>
    intro s hs R hR
    have hp := encS_pos s
    obtain ⟨R, rfl⟩ : ∃ m, R = m + 1 := ⟨R - 1, by omega⟩
    rw [encS_small (by omega)] at hR ⊢
    refine ⟨(s % 128).toNat, by simp [scan]; omega, ?_⟩
    unfold sgn; simp; omega
  | succ m ih =>
    intro s hs R hR
    have hp := encS_pos s
    obtain ⟨R, rfl⟩ : ∃ m, R = m + 1 := ⟨R - 1, by omega⟩
    by_cases h : -64 ≤ s ∧ s < 64
    · rw [encS_small h] at hR ⊢
      refine ⟨(s % 128).toNat, by simp [scan]; omega, ?_⟩
      unfold sgn; simp; omega
    · rw [encS_great h] at hR ⊢
      simp only [List.cons_append, List.length_cons] at hR ⊢
      obtain ⟨D, hD, hg⟩ := ih (s / 128) (by omega) R (by omega)
      refine ⟨(s % 128).toNat + 128 * D, ?_, ?_⟩
      · rw [scan, if_neg (by omega), hD]
        simp only [Option.map_some, Option.some.injEq, Prod.mk.injEq, and_true]
        omega
      · unfold sgn at hg ⊢
        have e : 128 ^ ((encS (s / 128)).length + 1) = 128 * 128 ^ (encS (s / 128)).length := by rw [Nat.pow_succ, Nat.mul_comm]
        have ev : ∃ q, 128 ^ (encS (s / 128)).length = 2 * q := ⟨64 * 128 ^ ((encS (s / 128)).length - 1), by have := encS_pos (s / 128); obtain ⟨m, hm⟩ : ∃ m, (encS (s / 128)).length = m + 1 := ⟨(encS (s / 128)).length - 1, by omega⟩; rw [hm]; simp only [Nat.add_sub_cancel]; rw [Nat.pow_succ]; omega⟩
        obtain ⟨q, hq⟩ := ev
        rw [e]
        split at hg <;> split <;> omega

theorem sgn_range (D N : Nat) (h : D < 128 ^ N) : -((128 ^ N : Nat) : Int) ≤ 2 * sgn D N ∧ 2 * sgn D N < ((128 ^ N : Nat) : Int) := by
  unfold sgn
  split <;> omega
end Go.Proofs.YtibeoejnfpbcfaaDoor.Leb
