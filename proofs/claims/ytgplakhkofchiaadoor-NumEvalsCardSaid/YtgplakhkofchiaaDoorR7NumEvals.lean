import Derived.Test.YtgplakhkofchiaaDoorR5NumEvals
import Derived.Test.YtgplakhkofchiaaDoorR6NumEvals
set_option linter.unusedVariables false
set_option linter.unusedSimpArgs false
namespace Go.Proofs.YtgplakhkofchiaaDoor.QNumEvals
open Go.RowKit Go.Proofs.YtgplakhkofchiaaDoor.Man Go.Proofs.YtgplakhkofchiaaDoor.RNumEvals Go.Proofs.YtgplakhkofchiaaDoorW.PrintWords Go.Proofs.YtgplakhkofchiaaDoorW.PrintLast Go.Proofs.YtgplakhkofchiaaDoorW.PrintMore

/-! ### counts -/
theorem cnt_j1 {i : Int} (hi : 0 ≤ i) (a : Nat) {N : Nat} (hN : N = 32 ∨ N = 64) (k j p : Nat) (hj : j < N) (hp : (p : Int) = if i = 0 then (N : Int) - 1 - j else j) (acc : Int) :
    grommetref03_count.l0 (k + 1) i a N acc (j : Int) = grommetref03_count.j1 k i a N acc (j : Int) (p : Int) := by
  rw [grommetref03_count.l0, if_pos (by omega)]
  by_cases h : i = 0
  · rw [if_pos h] at hp ⊢
    rw [w64 ((N : Int) - 1) (by omega) (by omega), w64 _ (by omega) (by omega), hp]
  · rw [if_neg h] at hp ⊢
    rw [hp]
theorem ref_stop {i : Int} (hi : i = 0 ∨ i = 1) (a : Nat) {N : Nat} (hN : N = 32 ∨ N = 64) (ha : a < 18446744073709551616) (r : Nat) (hr : r ≤ N) (ix : Nat → Nat)
    (hix : ∀ j, j < N → (ix j : Int) = if i = 0 then (N : Int) - 1 - j else j) (h0 : ∀ j, j < r → a.testBit (ix j) = false) (h1 : r < N → a.testBit (ix r) = true) :
    ∀ d k j, j + d = r → grommetref03_count.l0 (k + 3 * d + 4) i a N (j : Int) (j : Int) = some (r : Int) := by
  have il : ∀ j, j < N → ix j ≤ 64 := fun j hj => by
    have := hix j hj
    split at this <;> omega
  intro d
  induction d with
  | zero =>
    intro k j h
    obtain rfl : j = r := by omega
    by_cases hj : j < N
    · rw [show k + 3 * 0 + 4 = (k + 3) + 1 from by omega, cnt_j1 (by omega) a hN _ j (ix j) hj (hix j hj), show k + 3 = (k + 2) + 1 from rfl, grommetref03_count.j1, refbit a (ix j) ha (il j hj), Option.bind_some, h1 hj, if_pos (by rfl), show decide (i < 2) = true from decide_eq_true (by omega), show k + 2 = (k + 1) + 1 from rfl, grommetref03_count.j2, if_pos rfl]
    · rw [show k + 3 * 0 + 4 = (k + 3) + 1 from by omega, grommetref03_count.l0, if_neg (by omega)]
  | succ d ih =>
    intro k j h
    have hj : j < N := by omega
    rw [show k + 3 * (d + 1) + 4 = (k + 3 * d + 6) + 1 from by omega, cnt_j1 (by omega) a hN _ j (ix j) hj (hix j hj), show k + 3 * d + 6 = (k + 3 * d + 5) + 1 from rfl, grommetref03_count.j1, refbit a (ix j) ha (il j hj), Option.bind_some, h0 j (by omega), if_neg (by decide), show k + 3 * d + 5 = (k + 3 * d + 4) + 1 from rfl, grommetref03_count.j2, if_neg (by decide), if_pos (by omega), wu64, w64 _ (by omega) (by omega), show ((j : Int) + 1) % 18446744073709551616 = ((j + 1 : Nat) : Int) from by omega, show (j : Int) + 1 = ((j + 1 : Nat) : Int) from by omega]
    exact ih k (j + 1) (by omega)
theorem ref_pop (a : Nat) {N : Nat} (hN : N = 32 ∨ N = 64) (ha : a < 18446744073709551616) : ∀ d k j acc : Nat, j + d = N → acc ≤ j → grommetref03_count.l0 (k + 3 * d + 4) 2 a N (acc : Int) (j : Int) = some ((acc + pcr d (a / 2 ^ j) : Nat) : Int) := by
  intro d
  induction d with
  | zero =>
    intro k j acc h hacc
    rw [show k + 3 * 0 + 4 = (k + 3) + 1 from by omega, grommetref03_count.l0, if_neg (by omega)]
    rfl
  | succ d ih =>
    intro k j acc h hacc
    have hj : j < N := by omega
    have hb := Nat.toNat_testBit a j
    have e : a / 2 ^ (j + 1) = a / 2 ^ j / 2 := by rw [Nat.pow_succ, Nat.div_div_eq_div_mul]
    rw [show k + 3 * (d + 1) + 4 = (k + 3 * d + 6) + 1 from by omega, cnt_j1 (by decide) a hN _ j j hj (by rw [if_neg (by decide)]), show k + 3 * d + 6 = (k + 3 * d + 5) + 1 from rfl, grommetref03_count.j1, refbit a j ha (by omega), Option.bind_some]
    have j2 : grommetref03_count.j2 (k + 3 * d + 5) 2 a N (acc : Int) (j : Int) (j : Int) false = some ((acc + pcr (d + 1) (a / 2 ^ j) : Nat) : Int) := by
      rw [show k + 3 * d + 5 = (k + 3 * d + 4) + 1 from rfl, grommetref03_count.j2, if_neg (by decide), if_neg (by decide), refbit a j ha (by omega), Option.bind_some, wu64, w64 _ (by omega) (by omega), show ((acc : Int) + 1) % 18446744073709551616 = ((acc + 1 : Nat) : Int) from by omega, show (j : Int) + 1 = ((j + 1 : Nat) : Int) from by omega]
      rw [pcr, ← hb, ← e]
      cases hc : a.testBit j
      · rw [if_neg (by decide), ih k (j + 1) acc (by omega) (by omega)]
        simp
      · rw [if_pos (by rfl), ih k (j + 1) (acc + 1) (by omega) (by omega), show (true.toNat) = 1 from rfl, Nat.add_assoc]
    rw [show decide ((2 : Int) < 2) = false from rfl, j2]
    split <;> rfl
theorem pcr_zero : ∀ n, pcr n 0 = 0
  | 0 => rfl
  | n + 1 => by rw [pcr, pcr_zero n]
theorem pcr_small : ∀ n m a, a < 2 ^ n → pcr (n + m) a = pcr n a
  | 0, m, a, h => by
    obtain rfl : a = 0 := by simpa using h
    rw [pcr_zero, pcr_zero]
  | n + 1, m, a, h => by
    rw [show n + 1 + m = (n + m) + 1 from by omega, pcr, pcr, pcr_small n m (a / 2) (by rw [Nat.pow_succ] at h; omega)]
theorem pcr_le : ∀ n a, pcr n a ≤ n
  | 0, _ => Nat.le_refl _
  | n + 1, a => by have := pcr_le n (a / 2); rw [pcr]; omega

def AgreeC (i : Nat) (a N : Nat) : Prop := ∃ v : Int, (∀ k, 500 ≤ k → num_count.f k (i : Int) a N = some v) ∧ 0 ≤ v ∧ v < 18446744073709551616 ∧ ∀ k, 500 ≤ k → grommetref03_count.f k (i : Int) a N = some v
theorem agree_clz {a N : Nat} (hN : N = 32 ∨ N = 64) (ha : In (a : Int) (N : Int)) : AgreeC 0 a N := by
  have ha2 : a < 2 ^ N := (in_pow hN).1 ha
  have ha1 := ha.2.1
  have Lk := fun k => len_f a (by omega) k
  obtain ⟨L, _, hL, il⟩ := Lk 0
  have uniq : ∀ k, bits_Len64.f (k + 1) (a : Int) = some (L : Int) := by
    intro k
    obtain ⟨L', e, hL', il'⟩ := Lk k
    have : L' = L := by
      obtain ⟨p, q⟩ := il
      obtain ⟨p', q'⟩ := il'
      rcases Nat.lt_trichotomy L' L with h | h | h
      · have h1 := q.resolve_left (by omega)
        have h2 : 2 ^ L' ≤ 2 ^ (L - 1) := Nat.pow_le_pow_right (by decide) (by omega)
        omega
      · exact h
      · have h1 := q'.resolve_left (by omega)
        have h2 : 2 ^ L ≤ 2 ^ (L' - 1) := Nat.pow_le_pow_right (by decide) (by omega)
        omega
    rw [e, this]
  obtain ⟨p, q⟩ := il
  have hLN : L ≤ N := by
    by_cases h : L ≤ N
    · exact h
    · have h1 := q.resolve_left (by omega)
      have h2 : 2 ^ N ≤ 2 ^ (L - 1) := Nat.pow_le_pow_right (by decide) (by omega)
      omega
  refine ⟨((N - L : Nat) : Int), fun k hk => ?_, Int.natCast_nonneg _, by omega, fun k hk => ?_⟩
  · obtain ⟨k, rfl⟩ : ∃ j, k = j + 1 := ⟨k - 1, by omega⟩
    unfold num_count.f bits_LeadingZeros64.f
    rw [if_pos (by rfl), uniq k, Option.bind_some, Option.bind_some, w64 (64 - (L : Int)) (by omega) (by omega), w64 _ (by rw [w64 _ (by omega) (by omega)]; omega) (by rw [w64 _ (by omega) (by omega)]; omega), w64 _ (by omega) (by omega)]
    congr 1; omega
  · unfold grommetref03_count.f
    have := ref_stop (i := 0) (.inl rfl) a hN (by omega) (N - L) (by omega) (fun j => N - 1 - j) (fun j hj => by rw [if_pos rfl]; omega) (fun j hj => ?_) (fun hr => ?_) (N - L) (k - 3 * (N - L) - 4) 0 (by omega)
    · rw [show k - 3 * (N - L) - 4 + 3 * (N - L) + 4 = k from by omega] at this
      exact this
    · exact Nat.testBit_lt_two_pow (Nat.lt_of_lt_of_le p (Nat.pow_le_pow_right (by decide) (by omega)))
    · have h1 := q.resolve_left (by omega)
      show a.testBit (N - 1 - (N - L)) = true
      rw [show N - 1 - (N - L) = L - 1 from by omega]
      have hb := Nat.toNat_testBit a (L - 1)
      have hd : a / 2 ^ (L - 1) = 1 := by
        have h2 : 2 ^ L = 2 ^ (L - 1) * 2 := by rw [← Nat.pow_succ]; congr 1; omega
        refine Nat.div_eq_of_lt_le (by omega) (by omega)
      rw [hd] at hb
      cases h : a.testBit (L - 1)
      · rw [h] at hb; simp at hb
      · rfl
theorem agree_ctz {a N : Nat} (hN : N = 32 ∨ N = 64) (ha : In (a : Int) (N : Int)) : AgreeC 1 a N := by
  have ha2 : a < 2 ^ N := (in_pow hN).1 ha
  have ha1 := ha.2.1
  have fin : ∀ r : Nat, r ≤ N → (∀ j, j < r → a.testBit j = false) → (r < N → a.testBit r = true) → mn ((Lib.ctz 64 a : Nat) : Int) N = (r : Int) → AgreeC 1 a N := by
    intro r hr h0 h1 hm
    refine ⟨(r : Int), fun k hk => ?_, Int.natCast_nonneg _, by omega, fun k hk => ?_⟩
    · unfold num_count.f bits_TrailingZeros64.f
      rw [if_neg (by decide), if_pos (by rfl), if_pos (by omega), Option.bind_some]
      exact congrArg some hm
    · unfold grommetref03_count.f
      have := ref_stop (i := 1) (.inr rfl) a hN (by omega) r hr (fun j => j) (fun j hj => by rw [if_neg (by decide)]) h0 h1 r (k - 3 * r - 4) 0 (by omega)
      rw [show k - 3 * r - 4 + 3 * r + 4 = k from by omega] at this
      exact this
  by_cases h0 : a = 0
  · subst h0
    refine fin N (Nat.le_refl _) (fun j hj => by simp) (fun h => absurd h (by omega)) ?_
    rw [show Lib.ctz 64 0 = 64 from rfl]
    unfold mn
    rcases hN with rfl | rfl <;> decide
  · obtain ⟨m, hm, ht⟩ := Lib.ctzFrom_spec 64 a (by omega) (by omega)
    have hc : Lib.ctz 64 a = Lib.ctzFrom 64 a := if_neg h0
    rw [← hc] at hm ht
    generalize Lib.ctz 64 a = t at *
    have htN : t < N := by
      have h1 : 2 ^ t ≤ a := by
        have := Nat.mul_le_mul_left (2 ^ t) (show 1 ≤ 2 * m + 1 by omega)
        omega
      exact (Nat.pow_lt_pow_iff_right (by decide)).1 (Nat.lt_of_le_of_lt h1 ha2)
    refine fin t (by omega) (fun j hj => ?_) (fun _ => ?_) ?_
    · rw [hm, Nat.testBit_two_pow_mul]
      have : ¬ j ≥ t := by omega
      simp [this]
    · rw [hm, Nat.testBit_two_pow_mul]
      simp [Nat.testBit_zero]
    · unfold mn
      simp; omega
theorem agree_pop {a N : Nat} (hN : N = 32 ∨ N = 64) (ha : In (a : Int) (N : Int)) : AgreeC 2 a N := by
  have ha2 : a < 2 ^ N := (in_pow hN).1 ha
  have ha1 := ha.2.1
  have e : pcr 64 a = pcr N a := by
    have := pcr_small N (64 - N) a ha2
    rwa [show N + (64 - N) = 64 from by omega] at this
  have le := pcr_le N a
  refine ⟨((pcr N a : Nat) : Int), fun k hk => ?_, Int.natCast_nonneg _, by omega, fun k hk => ?_⟩
  · unfold num_count.f
    rw [if_neg (by decide), if_neg (by decide), ones_f a (by omega), e]; rfl
  · unfold grommetref03_count.f
    have := ref_pop a hN (by omega) N (k - 3 * N - 4) 0 0 (by omega) (by omega)
    rw [show k - 3 * N - 4 + 3 * N + 4 = k from by omega, Nat.pow_zero, Nat.div_one, Nat.zero_add] at this
    exact this
theorem agreeC {a N : Nat} (hN : N = 32 ∨ N = 64) (ha : In (a : Int) (N : Int)) (i : Nat) (hi : i < 3) : AgreeC i a N := by
  rcases (show i = 0 ∨ i = 1 ∨ i = 2 by omega) with rfl | rfl | rfl
  · exact agree_clz hN ha
  · exact agree_ctz hN ha
  · exact agree_pop hN ha
end Go.Proofs.YtgplakhkofchiaaDoor.QNumEvals
