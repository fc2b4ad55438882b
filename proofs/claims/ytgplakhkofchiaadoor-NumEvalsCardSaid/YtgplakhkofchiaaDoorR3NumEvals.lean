import Derived.Test.YtgplakhkofchiaaDoorR2NumEvals
set_option linter.unusedVariables false
set_option linter.unusedSimpArgs false
namespace Go.Proofs.YtgplakhkofchiaaDoor.QNumEvals
open Go.RowKit Go.Proofs.YtgplakhkofchiaaDoor.RNumEvals Go.Proofs.YtgplakhkofchiaaDoorW.PrintWords Go.Proofs.YtgplakhkofchiaaDoorW.PrintLast

/-! ### the great row: num and ref answer the same -/
def Agree (i : Nat) (a b N : Nat) : Prop := ∃ v t : Int, (∀ k, 15 ≤ k → num_two.f k (i : Int) a b N = some (v, t)) ∧ 0 ≤ v ∧ v < 18446744073709551616 ∧ ∀ k, 500 ≤ k → grommetref03_two.f k (i : Int) a b N = some (cutN v N, t)

theorem nI {N : Nat} (hN : N = 32 ∨ N = 64) : (N : Int) = 32 ∨ (N : Int) = 64 := by omega
theorem in_pow {a N : Nat} (hN : N = 32 ∨ N = 64) : In (a : Int) (N : Int) ↔ a < 2 ^ N := by
  unfold In
  rcases hN with rfl | rfl <;> omega
theorem wmod (z : Int) : 0 ≤ z % 18446744073709551616 ∧ z % 18446744073709551616 < 18446744073709551616 := by omega
theorem ref_low {a b N : Nat} (i : Int) (hi : ¬ i ≥ 3) (k : Nat) : grommetref03_two.f (k + 1) i a b N = if i = 0 then ((grommetref03_low.f (IntKind.u64.wrap ((a : Int) + b)) N).bind fun t182 => (some (t182, 0))) else if i = 1 then ((grommetref03_opposite.f b N).bind fun t183 => ((grommetref03_low.f (IntKind.u64.wrap ((a : Int) + t183)) N).bind fun t184 => (some (t184, 0)))) else if i = 2 then ((grommetref03_low.f (IntKind.u64.wrap ((a : Int) * b)) N).bind fun t185 => (some (t185, 0))) else grommetref03_two.f (k + 1) i a b N := by
  by_cases h0 : i = 0
  · subst h0; rfl
  · by_cases h1 : i = 1
    · subst h1; rfl
    · by_cases h2 : i = 2
      · subst h2; rfl
      · rw [if_neg h0, if_neg h1, if_neg h2]
theorem agree_low {a b N : Nat} (hN : N = 32 ∨ N = 64) (ha : In (a : Int) (N : Int)) (hb : In (b : Int) (N : Int)) (i : Nat) (hi : i < 3) : Agree i a b N := by
  have p := fun k hk => two_plain (nI hN) ha hb k hk
  rcases (show i = 0 ∨ i = 1 ∨ i = 2 by omega) with rfl | rfl | rfl
  · refine ⟨_, _, fun k hk => (p k (by omega)).1, (wmod _).1, (wmod _).2, fun k hk => ?_⟩
    obtain ⟨k, rfl⟩ : ∃ j, k = j + 1 := ⟨k - 1, by omega⟩
    rw [ref_low _ (by decide), if_pos (by rfl), low_w, cut_mod]; rfl
  · refine ⟨_, _, fun k hk => (p k (by omega)).2.1, (wmod _).1, (wmod _).2, fun k hk => ?_⟩
    obtain ⟨k, rfl⟩ : ∃ j, k = j + 1 := ⟨k - 1, by omega⟩
    rw [ref_low _ (by decide), if_neg (by decide), if_pos (by rfl), opposite_f hb.1 hb.2.1, Option.bind_some, low_w, cut_mod, Option.bind_some]
    rw [Int.add_emod, Int.emod_emod_of_dvd _ (Int.dvd_refl _), ← Int.add_emod, ← Int.sub_eq_add_neg]
  · refine ⟨_, _, fun k hk => (p k (by omega)).2.2, (wmod _).1, (wmod _).2, fun k hk => ?_⟩
    obtain ⟨k, rfl⟩ : ∃ j, k = j + 1 := ⟨k - 1, by omega⟩
    rw [ref_low _ (by decide), if_neg (by decide), if_neg (by decide), if_pos (by rfl), low_w, cut_mod]; rfl

theorem opp_one {b N : Nat} (hN : N = 32 ∨ N = 64) (hb : In (b : Int) (N : Int)) : ((-(b : Int)) % M N = 1) ↔ sg (b : Int) N = -1 := by
  obtain ⟨h0, h1, h2⟩ := hb
  unfold M
  rcases hN with rfl | rfl
  · have := h2 (by decide)
    have e : sg (b : Int) ((32 : Nat) : Int) = wrap32 b := if_pos rfl
    rw [e, if_pos (by decide)]; unfold wrap32; omega
  · have e : sg (b : Int) ((64 : Nat) : Int) = wrap64 b := if_neg (by decide)
    rw [e, if_neg (by decide)]; unfold wrap64; omega

theorem ref_div {a b N : Nat} (hN : N = 32 ∨ N = 64) (ha : In (a : Int) (N : Int)) (hb : In (b : Int) (N : Int)) (i : Nat) (h3 : 3 ≤ i) (h6 : i ≤ 6) (k : Nat) :
    grommetref03_two.f (k + 1 + 1 + 1) (i : Int) a b N = if (b : Int) = 0 then some (0, 2) else if i = 3 ∧ Over a b N then some (0, 3) else (grommetref03_divide.f k a b N (decide (i = 3 ∨ i = 5))).bind fun r => if (i : Int) < 5 then some (r.1, 0) else some (r.2, 0) := by
  have hp : 0 ≤ wrap64 ((N : Int) - 1) := by rw [w64 _ (by omega) (by omega)]; omega
  have j2 : ∀ c d, grommetref03_two.j2 (k + 1) (i : Int) a b N c d = if d = true then some (0, 3) else (grommetref03_divide.f k a b N c).bind fun r => if (i : Int) < 5 then some (r.1, 0) else some (r.2, 0) := fun c d => rfl
  have j1 : grommetref03_two.j0 (k + 1 + 1 + 1) (i : Int) a b N true = grommetref03_two.j1 (k + 1 + 1) (i : Int) a b N (decide (i = 3 ∨ i = 5)) := by
    rw [grommetref03_two.j0, if_pos rfl]
    rcases (show i = 3 ∨ i = 4 ∨ i = 5 ∨ i = 6 by omega) with rfl | rfl | rfl | rfl <;> rfl
  unfold grommetref03_two.f
  rw [if_pos (by omega), show decide ((i : Int) ≤ 6) = true from decide_eq_true (by omega), j1, grommetref03_two.j1]
  by_cases hz : (b : Int) = 0
  · rw [if_pos hz, if_pos hz]
  · rw [if_neg hz, if_neg hz, j2]
    by_cases hi : i = 3
    · subst hi
      rw [if_pos (by rfl), if_pos hp, top_bit (nI hN)]
      by_cases ht : (a : Int) = (if (N : Int) = 32 then 2147483648 else 9223372036854775808)
      · rw [if_pos ht, opposite_f hb.1 hb.2.1, Option.bind_some, j2]
        by_cases ho : sg (b : Int) N = -1
        · rw [if_pos (by rw [beq_iff_eq]; exact (opp_one hN hb).2 ho), if_pos ⟨rfl, ho, ht⟩]
        · rw [if_neg (by rw [beq_iff_eq]; exact fun q => ho ((opp_one hN hb).1 q)), if_neg (fun q => ho q.2.1)]
      · rw [if_neg ht, if_neg (by decide), if_neg (fun q => ht q.2.2)]
    · rw [if_neg (by omega), if_neg (by decide), if_neg (fun q => hi q.1)]

theorem agree_div {a b N : Nat} (hN : N = 32 ∨ N = 64) (ha : In (a : Int) (N : Int)) (hb : In (b : Int) (N : Int)) (i : Nat) (h3 : 3 ≤ i) (h6 : i ≤ 6) : Agree i a b N := by
  have hM : M (N : Int) ≤ 18446744073709551616 := by unfold M; split <;> decide
  have hp := M_pos (n := (N : Int))
  have wM : ∀ z : Int, cutN (IntKind.u64.wrap z) N = z % M N := fun z => by rw [wu64, cut_mod]
  have wr : ∀ z : Int, 0 ≤ IntKind.u64.wrap z ∧ IntKind.u64.wrap z < 18446744073709551616 := fun z => by rw [wu64]; omega
  by_cases hz : (b : Int) = 0
  · refine ⟨0, 2, fun k hk => ?_, by decide, by decide, fun k hk => ?_⟩
    · have := two_div (x := a) (y := b) (nI hN) (i - 3) (by omega) k (by omega) (fun k hk => div_zero (nI hN) ha hb hz _ k)
      rwa [show 3 + (i - 3) = i from by omega] at this
    · obtain ⟨k, rfl⟩ : ∃ j, k = j + 1 + 1 + 1 := ⟨k - 3, by omega⟩
      rw [ref_div hN ha hb i h3 h6, if_pos hz]
      unfold cutN; split <;> rfl
  · have d := fun k (hk : 2 ≤ k) => div_any (nI hN) ha hb hz k hk
    have ds := fun k hk => divide_s hN ha hb hz k hk
    have du := fun k hk => divide_u hN ha hb hz k hk
    rcases (show i = 3 ∨ i = 4 ∨ i = 5 ∨ i = 6 by omega) with rfl | rfl | rfl | rfl
    · by_cases ho : Over (a : Int) b N
      · refine ⟨0, 3, fun k hk => ?_, by decide, by decide, fun k hk => ?_⟩
        · exact two_div (x := a) (y := b) (nI hN) 0 (by omega) k (by omega) (fun k hk => by have := (d k hk).1; rw [if_pos ho] at this; exact this)
        · obtain ⟨k, rfl⟩ : ∃ j, k = j + 1 + 1 + 1 := ⟨k - 3, by omega⟩
          rw [ref_div hN ha hb 3 h3 h6, if_neg hz, if_pos ⟨rfl, ho⟩]
          unfold cutN; split <;> rfl
      · refine ⟨_, 0, fun k hk => two_div (x := a) (y := b) (nI hN) 0 (by omega) k (by omega) (fun k hk => by have := (d k hk).1; rw [if_neg ho] at this; exact this), (wr _).1, (wr _).2, fun k hk => ?_⟩
        obtain ⟨k, rfl⟩ : ∃ j, k = j + 1 + 1 + 1 := ⟨k - 3, by omega⟩
        rw [ref_div hN ha hb 3 h3 h6, if_neg hz, if_neg (fun q => ho q.2), show decide ((3 : Nat) = 3 ∨ (3 : Nat) = 5) = true from rfl, ds k (by omega), Option.bind_some, if_pos (by decide), wM, wrap64_M]
    · refine ⟨_, 0, fun k hk => two_div (x := a) (y := b) (nI hN) 1 (by omega) k (by omega) (fun k hk => (d k hk).2.1), (wr _).1, (wr _).2, fun k hk => ?_⟩
      obtain ⟨k, rfl⟩ : ∃ j, k = j + 1 + 1 + 1 := ⟨k - 3, by omega⟩
      rw [ref_div hN ha hb 4 h3 h6, if_neg hz, if_neg (fun q => absurd q.1 (by decide)), show decide ((4 : Nat) = 3 ∨ (4 : Nat) = 5) = false from rfl, du k (by omega), Option.bind_some, if_pos (by decide), wM]
    · by_cases hm : sg (b : Int) N = -1
      · refine ⟨0, 0, fun k hk => two_div (x := a) (y := b) (nI hN) 2 (by omega) k (by omega) (fun k hk => by have := (d k hk).2.2.1; rw [if_pos hm] at this; exact this), by decide, by decide, fun k hk => ?_⟩
        obtain ⟨k, rfl⟩ : ∃ j, k = j + 1 + 1 + 1 := ⟨k - 3, by omega⟩
        rw [ref_div hN ha hb 5 h3 h6, if_neg hz, if_neg (fun q => absurd q.1 (by decide)), show decide ((5 : Nat) = 3 ∨ (5 : Nat) = 5) = true from rfl, ds k (by omega), Option.bind_some, if_neg (by decide), hm, tmod_minus_one]
        unfold cutN; split <;> simp
      · refine ⟨_, 0, fun k hk => two_div (x := a) (y := b) (nI hN) 2 (by omega) k (by omega) (fun k hk => by have := (d k hk).2.2.1; rw [if_neg hm] at this; exact this), (wr _).1, (wr _).2, fun k hk => ?_⟩
        obtain ⟨k, rfl⟩ : ∃ j, k = j + 1 + 1 + 1 := ⟨k - 3, by omega⟩
        rw [ref_div hN ha hb 5 h3 h6, if_neg hz, if_neg (fun q => absurd q.1 (by decide)), show decide ((5 : Nat) = 3 ∨ (5 : Nat) = 5) = true from rfl, ds k (by omega), Option.bind_some, if_neg (by decide), wM]
    · have hb0 := hb.1
      have t0 : 0 ≤ Int.tmod (a : Int) b := Int.tmod_nonneg _ (by omega)
      have t1 := Int.tmod_lt_of_pos (a : Int) (show (0 : Int) < b by omega)
      have hbM := (sg_cases hN hb).2.2
      refine ⟨_, 0, fun k hk => two_div (x := a) (y := b) (nI hN) 3 (by omega) k (by omega) (fun k hk => (d k hk).2.2.2), t0, by omega, fun k hk => ?_⟩
      obtain ⟨k, rfl⟩ : ∃ j, k = j + 1 + 1 + 1 := ⟨k - 3, by omega⟩
      rw [ref_div hN ha hb 6 h3 h6, if_neg hz, if_neg (fun q => absurd q.1 (by decide)), show decide ((6 : Nat) = 3 ∨ (6 : Nat) = 5) = false from rfl, du k (by omega), Option.bind_some, if_neg (by decide), cutN_M t0 (by omega), Int.emod_eq_of_lt t0 (by omega)]

/-! and, or, xor -/
theorem agree_bits {a b N : Nat} (hN : N = 32 ∨ N = 64) (ha : In (a : Int) (N : Int)) (hb : In (b : Int) (N : Int)) (i : Nat) (h7 : 7 ≤ i) (h9 : i ≤ 9) : Agree i a b N := by
  have ha2 : a < 2 ^ N := (in_pow hN).1 ha
  have hb2 : b < 2 ^ N := (in_pow hN).1 hb
  have a1 := ha.2.1
  have b1 := hb.2.1
  have t := fun k hk => two_and (nI hN) ha hb k hk
  have loop : ∀ (z : Nat), z < 2 ^ N → (∀ j, j < N → opF (i : Int) a b j = z.testBit j) → ∀ k, 500 ≤ k → grommetref03_two.f k (i : Int) a b N = some (cutN (z : Int) N, 0) := by
    intro z hz hF k hk
    obtain ⟨k, rfl⟩ : ∃ j, k = j + N + 1 + 1 := ⟨k - N - 2, by omega⟩
    have l := two_loop (i := (i : Int)) (by omega) a b (n := N) (by omega) (by omega) (by omega) N k 0 (by omega)
    rw [build_eq hz hF] at l
    unfold grommetref03_two.f
    rw [if_pos (by omega), show decide ((i : Int) ≤ 6) = false from decide_eq_false (by omega), grommetref03_two.j0, if_neg (by decide), if_neg (by omega), if_neg (by omega), if_neg (by omega), if_neg (by omega)]
    rw [cut_of_in ((in_pow hN).2 hz)]
    exact l
  rcases (show i = 7 ∨ i = 8 ∨ i = 9 by omega) with rfl | rfl | rfl
  · have hz := Nat.and_lt_two_pow a hb2
    exact ⟨_, _, fun k hk => (t k (by omega)).1, Int.natCast_nonneg _, ((in_pow hN).2 hz).2.1, loop (a &&& b) hz (fun j _ => by rw [Nat.testBit_and]; rfl)⟩
  · have hz := Nat.or_lt_two_pow ha2 hb2
    exact ⟨_, _, fun k hk => (t k (by omega)).2.1, Int.natCast_nonneg _, ((in_pow hN).2 hz).2.1, loop (a ||| b) hz (fun j _ => by rw [Nat.testBit_or]; rfl)⟩
  · have hz := Nat.xor_lt_two_pow ha2 hb2
    exact ⟨_, _, fun k hk => (t k (by omega)).2.2, Int.natCast_nonneg _, ((in_pow hN).2 hz).2.1, loop (a ^^^ b) hz (fun j _ => by rw [Nat.testBit_xor]; rfl)⟩

/-! shifts and turns -/
theorem ref_sh {a b N : Nat} (hN : N = 32 ∨ N = 64) (ha : In (a : Int) (N : Int)) (hb : In (b : Int) (N : Int)) (i : Nat) (hi : i < 5) (z : Nat) (hz : build (shF (i : Int) a (b % N) N) N = z) (k : Nat) (hk : 500 ≤ k) :
    grommetref03_two.f k ((10 + i : Nat) : Int) a b N = some ((z : Int), 0) := by
  obtain ⟨k, rfl⟩ : ∃ j, k = j + 1 := ⟨k - 1, by omega⟩
  have hl := Nat.mod_lt b (show 0 < N by omega)
  have e : wrap64 (Int.tmod (b : Int) (IntKind.u64.wrap (N : Int))) = ((b % N : Nat) : Int) := by
    rw [wu64, Int.emod_eq_of_lt (by omega) (by omega), Int.tmod_eq_emod_of_nonneg (by omega), w64 _ (by omega) (by omega)]; rfl
  unfold grommetref03_two.f
  rw [if_pos (by omega), show decide (((10 + i : Nat) : Int) ≤ 6) = false from decide_eq_false (by omega), grommetref03_two.j0, if_neg (by decide), if_neg (by omega), if_neg (by omega), if_neg (by omega), if_pos (by omega), if_neg (by rw [wu64]; omega)]
  rw [w64 _ (by omega) (by omega), e, show ((10 + i : Nat) : Int) - 10 = (i : Int) from by omega, sh_f _ a (b % N) hN hl (by have := ha.2.1; omega) k (by omega), hz]
  rfl

theorem sar_law {a s N : Nat} (hN : N = 32 ∨ N = 64) (ha : In (a : Int) (N : Int)) (hs : s < N) : (sg (a : Int) N / 2 ^ s) % M N = ((if a.testBit (N - 1) = true then a / 2 ^ s + 2 ^ (N - s) * (2 ^ s - 1) else a / 2 ^ s : Nat) : Int) := by
  have ha2 : a < 2 ^ N := (in_pow hN).1 ha
  obtain ⟨c1, c2, c3⟩ := sg_cases hN ha
  have hq : 2 ^ s * 2 ^ (N - s) = 2 ^ N := by rw [← Nat.pow_add]; congr 1; omega
  have hl : a / 2 ^ s < 2 ^ (N - s) := by rw [Nat.div_lt_iff_lt_mul (Nat.two_pow_pos _), Nat.mul_comm, hq]; exact ha2
  have h2 : 2 ^ (N - s) ≤ 2 ^ N := Nat.pow_le_pow_right (by decide) (by omega)
  have h1 : 2 ^ (N - s) * (2 ^ s - 1) = 2 ^ N - 2 ^ (N - s) := by rw [Nat.mul_sub, Nat.mul_one, Nat.mul_comm, hq]
  have ed : (a : Int) / 2 ^ s = ((a / 2 ^ s : Nat) : Int) := by rw [Int.natCast_ediv, Int.natCast_pow]; rfl
  rw [top_sg hN ha, M_pow hN]
  by_cases c : sg (a : Int) N < 0
  · rw [if_pos (decide_eq_true c), c1 c, M_pow hN, h1]
    have e : (a : Int) - ((2 ^ N : Nat) : Int) = a + (-((2 ^ (N - s) : Nat) : Int)) * 2 ^ s := by
      have h3 : ((2 ^ (N - s) : Nat) : Int) * 2 ^ s = ((2 ^ N : Nat) : Int) := by
        rw [← hq, Int.natCast_mul, Int.mul_comm, Int.natCast_pow, Int.natCast_pow]; rfl
      rw [Int.neg_mul, h3]; omega
    have hne : (2 : Int) ^ s ≠ 0 := by
      have : (2 : Int) ^ s = ((2 ^ s : Nat) : Int) := by rw [Int.natCast_pow]; rfl
      have hp := Nat.two_pow_pos s
      omega
    rw [e, Int.add_mul_ediv_right _ _ hne, ed]
    generalize a / 2 ^ s = q at *
    generalize 2 ^ (N - s) = u at *
    generalize 2 ^ N = w at *
    rw [show (q : Int) + -(u : Int) = ((q + (w - u) : Nat) : Int) - (w : Int) from by omega, Int.sub_emod_right, Int.emod_eq_of_lt (by omega) (by omega)]
  · rw [if_neg (by simpa using c), c2 c, ed, Int.emod_eq_of_lt (Int.natCast_nonneg _) (Int.ofNat_lt.mpr (Nat.lt_of_le_of_lt (Nat.div_le_self _ _) ha2))]

theorem agree_sh {a b N : Nat} (hN : N = 32 ∨ N = 64) (ha : In (a : Int) (N : Int)) (hb : In (b : Int) (N : Int)) (i : Nat) (hi : i < 5) : Agree (10 + i) a b N := by
  have ha2 : a < 2 ^ N := (in_pow hN).1 ha
  have hl := Nat.mod_lt b (show 0 < N by omega)
  have ry := fun z hz k hk => ref_sh hN ha hb i hi z hz k hk
  have er : (b : Int) % (N : Int) = ((b % N : Nat) : Int) := rfl
  have hcut : ∀ z : Int, cutN (z % 18446744073709551616) N = z % M N := fun z => cut_mod z N
  have wr : ∀ z : Int, 0 ≤ IntKind.u64.wrap z ∧ IntKind.u64.wrap z < 18446744073709551616 := fun z => by rw [wu64]; omega
  have inz : ∀ z : Nat, z < 2 ^ N → cutN (z : Int) N = z ∧ (z : Int) < 18446744073709551616 := fun z hz => ⟨cut_of_in ((in_pow hN).2 hz), ((in_pow hN).2 hz).2.1⟩
  rcases (show i = 0 ∨ i = 1 ∨ i = 2 ∨ i = 3 ∨ i = 4 by omega) with rfl | rfl | rfl | rfl | rfl
  · refine ⟨_, _, fun k hk => two_shl (nI hN) ha hb k (by omega), (wmod _).1, (wmod _).2, fun k hk => ?_⟩
    rw [ry _ (sh_left ha2 hl) k hk, hcut, er, M_pow hN, show (((b % N : Nat) : Int)).toNat = b % N from rfl]
    have : (a : Int) * 2 ^ (b % N) = ((a * 2 ^ (b % N) : Nat) : Int) := by rw [Int.natCast_mul, Int.natCast_pow]; rfl
    rw [this]; rfl
  · refine ⟨IntKind.u64.wrap (sg (a : Int) N / 2 ^ (b % N)), 0, fun k hk => ?_, (wr _).1, (wr _).2, fun k hk => ?_⟩
    · obtain ⟨k, rfl⟩ : ∃ j, k = j + 1 := ⟨k - 1, by omega⟩
      show num_two.f (k + 1) 11 a b N = _
      rw [two_high (nI hN) ha hb (by decide), num_two.j0, if_neg (by decide), if_neg (by decide), if_neg (by decide), if_neg (by decide), if_neg (by decide), if_pos rfl, signed_f ha, Option.bind_some, er, if_pos (by omega)]
      unfold shr
      rw [show min (((b % N : Nat) : Int)).toNat (IntKind.bits .i64) = b % N from Nat.min_eq_left (by simp only [IntKind.bits]; omega)]
    · rw [ry _ (sh_sar ha2 hl) k hk, wu64, hcut, sar_law hN ha hl]
  · have hlt : a / 2 ^ (b % N) < 2 ^ N := Nat.lt_of_le_of_lt (Nat.div_le_self _ _) ha2
    refine ⟨((a / 2 ^ (b % N) : Nat) : Int), 0, fun k hk => ?_, Int.natCast_nonneg _, (inz _ hlt).2, fun k hk => ?_⟩
    · obtain ⟨k, rfl⟩ : ∃ j, k = j + 1 := ⟨k - 1, by omega⟩
      show num_two.f (k + 1) 12 a b N = _
      rw [two_high (nI hN) ha hb (by decide), num_two.j0, if_neg (by decide), if_neg (by decide), if_neg (by decide), if_neg (by decide), if_neg (by decide), if_neg (by decide), if_pos rfl, er, if_pos (by omega)]
      unfold shr
      rw [show min (((b % N : Nat) : Int)).toNat (IntKind.bits .u64) = b % N from Nat.min_eq_left (by simp only [IntKind.bits]; omega)]
      rw [Int.natCast_ediv, Int.natCast_pow]; rfl
    · rw [ry _ (sh_right ha2 hl) k hk, (inz _ hlt).1]
  · have h := rot_lt N a (b % N) (by omega) ha2
    refine ⟨_, _, fun k hk => (two_turn (nI hN) ha hb k (by omega)).1, Int.natCast_nonneg _, (inz _ h.1).2, fun k hk => ?_⟩
    rw [ry _ (sh_rotl ha2 hl) k hk]
    exact congrArg (fun q => some (q, (0 : Int))) (inz _ h.1).1.symm
  · have h := rot_lt N a ((N - b % N) % N) (Nat.le_of_lt (Nat.mod_lt _ (by omega))) ha2
    refine ⟨_, _, fun k hk => (two_turn (nI hN) ha hb k (by omega)).2, Int.natCast_nonneg _, (inz _ h.1).2, fun k hk => ?_⟩
    rw [ry _ (sh_rotr ha2 hl) k hk]
    exact congrArg (fun q => some (q, (0 : Int))) (inz _ h.1).1.symm

theorem agree {a b N : Nat} (hN : N = 32 ∨ N = 64) (ha : In (a : Int) (N : Int)) (hb : In (b : Int) (N : Int)) (i : Nat) (hi : i < 15) : Agree i a b N := by
  by_cases h1 : i < 3
  · exact agree_low hN ha hb i h1
  · by_cases h2 : i ≤ 6
    · exact agree_div hN ha hb i (by omega) h2
    · by_cases h3 : i ≤ 9
      · exact agree_bits hN ha hb i (by omega) h3
      · have := agree_sh hN ha hb (i - 10) (by omega)
        rwa [show 10 + (i - 10) = i from by omega] at this
end Go.Proofs.YtgplakhkofchiaaDoor.QNumEvals
