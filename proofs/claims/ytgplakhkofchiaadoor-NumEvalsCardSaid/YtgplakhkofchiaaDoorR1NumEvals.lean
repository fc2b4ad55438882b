import Derived.Test.YtgplakhkofchiaaDoorQNumEvals
set_option linter.unusedVariables false
set_option linter.unusedSimpArgs false
namespace Go.Proofs.YtgplakhkofchiaaDoor.QNumEvals
open Go.RowKit Go.Proofs.YtgplakhkofchiaaDoor.RNumEvals Go.Proofs.YtgplakhkofchiaaDoorW.PrintWords Go.Proofs.YtgplakhkofchiaaDoorW.PrintLast

/-! ### bits, one by one -/
theorem refbit (a i : Nat) (ha : a < 18446744073709551616) (hi : i ≤ 64) : grommetref03_bit.f (a : Int) (i : Int) = some (((a.testBit i).toNat : Nat) : Int) := by
  unfold grommetref03_bit.f
  rw [if_pos (by omega)]
  have e : shr .u64 (a : Int) (i : Int) = ((a / 2 ^ i : Nat) : Int) := by
    unfold shr
    rw [show min ((i : Nat) : Int).toNat (IntKind.bits .u64) = i from Nat.min_eq_left (by simp only [IntKind.bits]; omega)]
    rw [Int.natCast_ediv, Int.natCast_pow]; rfl
  have hlt : a / 2 ^ i < 18446744073709551616 := Nat.lt_of_le_of_lt (Nat.div_le_self _ _) ha
  have := (nat64 (a / 2 ^ i) 1 hlt (by decide)).1
  rw [show ((1 : Nat) : Int) = 1 from rfl] at this
  rw [e, this, Nat.toNat_testBit, show 1 = 2 ^ 1 - 1 from rfl, Nat.and_two_pow_sub_one_eq_mod]

def build (F : Nat → Bool) : Nat → Nat
  | 0 => 0
  | i + 1 => build F i + (F i).toNat * 2 ^ i
theorem build_lt (F : Nat → Bool) : ∀ i, build F i < 2 ^ i
  | 0 => Nat.one_pos
  | i + 1 => by
    have := build_lt F i
    rw [build, Nat.pow_succ]
    have h : (F i).toNat * 2 ^ i ≤ 1 * 2 ^ i := Nat.mul_le_mul_right _ (Bool.toNat_le _)
    omega
theorem build_bit (F : Nat → Bool) : ∀ i j, (build F i).testBit j = (decide (j < i) && F j)
  | 0, j => by simp [build]
  | i + 1, j => by
    rw [build, Nat.add_comm, Nat.mul_comm, Nat.testBit_two_pow_mul_add _ (build_lt F i)]
    by_cases h : j < i
    · rw [if_pos h, build_bit F i j]
      have : j < i + 1 := by omega
      simp [h, this]
    · rw [if_neg h]
      by_cases h2 : j = i
      · subst h2
        rw [Nat.sub_self]
        cases F j <;> simp
      · have h3 : ¬ j < i + 1 := by omega
        obtain ⟨d, hd⟩ : ∃ d, j - i = d + 1 := ⟨j - i - 1, by omega⟩
        rw [hd]
        cases F i <;> simp [h3, Nat.testBit_succ]
theorem build_eq {F : Nat → Bool} {n x : Nat} (hx : x < 2 ^ n) (h : ∀ j, j < n → F j = x.testBit j) : build F n = x := by
  apply Nat.eq_of_testBit_eq
  intro j
  rw [build_bit]
  by_cases hj : j < n
  · rw [h j hj]; simp [hj]
  · have : x.testBit j = false := Nat.testBit_lt_two_pow (Nat.lt_of_lt_of_le hx (Nat.pow_le_pow_right (by decide) (by omega)))
    rw [this]; simp [hj]

theorem orstep (v i : Nat) (b : Bool) (hv : v < 2 ^ i) (hi : i < 64) : Go.bits .or .u64 (v : Int) (shl .u64 ((b.toNat : Nat) : Int) (i : Int)) = ((v + b.toNat * 2 ^ i : Nat) : Int) := by
  have hp : 2 ^ i ≤ 2 ^ 63 := Nat.pow_le_pow_right (by decide) (by omega)
  have hb : b.toNat * 2 ^ i ≤ 1 * 2 ^ i := Nat.mul_le_mul_right _ (Bool.toNat_le _)
  have e1 : shl .u64 ((b.toNat : Nat) : Int) (i : Int) = ((b.toNat * 2 ^ i : Nat) : Int) := by
    unfold shl
    rw [show min (i : Int).toNat (IntKind.bits .u64) = i from Nat.min_eq_left (by simp only [IntKind.bits]; omega), wu64]
    have hm : ((b.toNat : Nat) : Int) * 2 ^ i = ((b.toNat * 2 ^ i : Nat) : Int) := by rw [Int.natCast_mul, Int.natCast_pow]; rfl
    rw [hm]; omega
  rw [e1, (nat64 v (b.toNat * 2 ^ i) (by omega) (by omega)).2]
  congr 1
  rw [Nat.or_comm, Nat.mul_comm, ← Nat.two_pow_add_eq_or_of_lt hv, Nat.add_comm]

/-! ### and, or, xor, bit by bit -/
def opF (i : Int) (a b : Nat) (j : Nat) : Bool := if i = 7 then (a.testBit j && b.testBit j) else if i = 8 then (a.testBit j || b.testBit j) else (a.testBit j ^^ b.testBit j)
theorem two_step {i : Int} (hi : i = 7 ∨ i = 8 ∨ i = 9) (a b : Nat) {n : Nat} (hn : n ≤ 64) (ha : a < 18446744073709551616) (hb : b < 18446744073709551616) (k j : Nat) (hj : j < n) :
    grommetref03_two.l0 (k + 1) i a b n ((build (opF i a b) j : Nat) : Int) (j : Int) = grommetref03_two.l0 k i a b n ((build (opF i a b) (j + 1) : Nat) : Int) ((j + 1 : Nat) : Int) := by
  have ho := fun v : Bool => orstep (build (opF i a b) j) j v (build_lt _ j) (by omega)
  have h0 := ho false
  have h1 := ho true
  rw [show ((false.toNat : Nat) : Int) = 0 from rfl, show build (opF i a b) j + false.toNat * 2 ^ j = build (opF i a b) j from by simp] at h0
  rw [show ((true.toNat : Nat) : Int) = 1 from rfl, show build (opF i a b) j + true.toNat * 2 ^ j = build (opF i a b) j + 2 ^ j from by simp] at h1
  rw [grommetref03_two.l0, if_pos (by omega), refbit a j ha (by omega), refbit b j hb (by omega), Option.bind_some, Option.bind_some, w64 _ (by omega) (by omega)]
  have c0 : (0 : Int) ≤ (j : Int) := by omega
  have e2 : IntKind.u64.wrap 2 = 2 := by decide
  have e1 : IntKind.u64.wrap 1 = 1 := by decide
  have e0 : IntKind.u64.wrap 0 = 0 := by decide
  have F := show build (opF i a b) (j + 1) = build (opF i a b) j + (opF i a b j).toNat * 2 ^ j from rfl
  rw [F]
  have tt : grommetref03_truth.f true = some 1 := rfl
  have tf : grommetref03_truth.f false = some 0 := rfl
  have cast : ((j + 1 : Nat) : Int) = (j : Int) + 1 := by omega
  generalize hB : build (opF i a b) j = B at *
  have ff : ((false.toNat : Nat) : Int) = 0 := rfl
  have ft : ((true.toNat : Nat) : Int) = 1 := rfl
  rcases hi with rfl | rfl | rfl <;> cases ea : a.testBit j <;> cases eb : b.testBit j <;>
    simp [opF, ea, eb, e0, e1, e2, tt, tf, h0, h1]
theorem two_loop {i : Int} (hi : i = 7 ∨ i = 8 ∨ i = 9) (a b : Nat) {n : Nat} (hn : n ≤ 64) (ha : a < 18446744073709551616) (hb : b < 18446744073709551616) : ∀ (d k j : Nat), j + d = n →
    grommetref03_two.l0 (k + d + 1) i a b n ((build (opF i a b) j : Nat) : Int) (j : Int) = some (((build (opF i a b) n : Nat) : Int), 0) := by
  intro d
  induction d with
  | zero => intro k j h; obtain rfl : j = n := by omega
            rw [grommetref03_two.l0, if_neg (by omega)]
  | succ d ih =>
    intro k j h
    rw [show k + (d + 1) + 1 = (k + d + 1) + 1 from by omega, two_step hi a b hn ha hb _ j (by omega)]
    exact ih k (j + 1) (by omega)

/-! ### shifts and turns, bit by bit -/
/-- The bit of one round: y its place. -/
def shB (i : Int) (a : Nat) (n : Nat) (y : Int) : Bool := if 0 ≤ y ∧ y < n then a.testBit y.toNat else if i = 1 ∧ (n : Int) ≤ y then a.testBit (n - 1) else false
theorem sh_j3 (i : Int) (a s : Nat) {n : Nat} (hn : n = 32 ∨ n = 64) (ha : a < 18446744073709551616) (k : Nat) (j : Int) (hj : 0 ≤ j) (acc : Int) (y : Int) :
    grommetref03_shift.j3 (k + 2) i a s n acc j y = grommetref03_shift.l0 k i a s n (Go.bits .or .u64 acc (shl .u64 (((shB i a n y).toNat : Nat) : Int) j)) (wrap64 (j + 1)) := by
  have wn : wrap64 ((n : Int) - 1) = ((n - 1 : Nat) : Int) := by rw [w64 _ (by omega) (by omega)]; omega
  have ff : ((false.toNat : Nat) : Int) = 0 := rfl
  rw [grommetref03_shift.j3]
  by_cases h0 : y ≥ 0
  · rw [if_pos h0, grommetref03_shift.j4]
    by_cases hyn : y < n
    · have hB : shB i a n y = a.testBit y.toNat := if_pos ⟨h0, hyn⟩
      obtain ⟨m, rfl⟩ := Int.eq_ofNat_of_zero_le h0
      rw [if_pos (decide_eq_true hyn), refbit a m ha (by omega), Option.bind_some, hB, show (m : Int).toNat = m from rfl]
      by_cases h1 : i = 1
      · rw [if_pos h1, if_neg (by omega), if_pos hj]
      · rw [if_neg h1, if_pos hj]
    · rw [if_neg (by simpa using hyn)]
      by_cases h1 : i = 1
      · have hB : shB i a n y = a.testBit (n - 1) := by unfold shB; rw [if_neg (fun q => hyn q.2), if_pos ⟨h1, by omega⟩]
        rw [if_pos h1, if_pos (by omega), wn, refbit a (n - 1) ha (by omega), Option.bind_some, if_pos hj, hB]
      · have hB : shB i a n y = false := by unfold shB; rw [if_neg (fun q => hyn q.2), if_neg (fun q => h1 q.1)]
        rw [if_neg h1, if_pos hj, hB, ff]
  · have hB : shB i a n y = false := by unfold shB; rw [if_neg (fun q => h0 q.1), if_neg (fun q => h0 (by have := q.2; omega))]
    rw [if_neg h0, grommetref03_shift.j4, if_neg (by decide), hB, ff]
    by_cases h1 : i = 1
    · rw [if_pos h1, if_neg (by omega), if_pos hj]
    · rw [if_neg h1, if_pos hj]
/-- The place of round j. -/
def shX (i : Int) (s : Nat) (j : Nat) : Int := if i = 0 ∨ i = 3 then (j : Int) - s else (j : Int) + s
def shY (i : Int) (s n : Nat) (j : Nat) : Int := if 3 ≤ i then (shX i s j + n) % n else shX i s j
theorem sh_j1 (i : Int) (a s : Nat) {n : Nat} (hn : n = 32 ∨ n = 64) (hs : s < n) (k j : Nat) (hj : j < n) (acc : Int) :
    grommetref03_shift.l0 (k + 5) i a s n acc (j : Int) = grommetref03_shift.j2 (k + 3) i a s n acc (j : Int) (shX i s j) := by
  have w1 : wrap64 ((j : Int) + s) = (j : Int) + s := w64 _ (by omega) (by omega)
  have w2 : wrap64 ((j : Int) - s) = (j : Int) - s := w64 _ (by omega) (by omega)
  rw [grommetref03_shift.l0, if_pos (by omega), w1]
  by_cases h0 : i = 0
  · rw [if_pos h0, grommetref03_shift.j1, if_pos rfl, w2]
    unfold shX
    rw [if_pos (.inl h0)]
  · rw [if_neg h0, grommetref03_shift.j1]
    unfold shX
    by_cases h3 : i = 3
    · rw [if_pos (by rw [beq_iff_eq]; exact h3), w2, if_pos (.inr h3)]
    · rw [if_neg (by rw [beq_iff_eq]; exact h3), if_neg (fun q => by omega)]
theorem sh_j2 (i : Int) (a s : Nat) {n : Nat} (hn : n = 32 ∨ n = 64) (hs : s < n) (k j : Nat) (hj : j < n) (acc : Int) :
    grommetref03_shift.j2 (k + 3) i a s n acc (j : Int) (shX i s j) = grommetref03_shift.j3 (k + 2) i a s n acc (j : Int) (shY i s n j) := by
  have hx3 : shX i s j = (j : Int) - s ∨ shX i s j = (j : Int) + s := by unfold shX; split <;> simp
  unfold shY
  generalize shX i s j = x at *
  rw [grommetref03_shift.j2]
  by_cases h3 : 3 ≤ i
  · rw [if_pos h3, if_pos h3, if_neg (by omega), w64 _ (by omega) (by omega), Int.tmod_eq_emod_of_nonneg (by omega)]
  · rw [if_neg (by omega), if_neg h3]
def shF (i : Int) (a s n : Nat) (j : Nat) : Bool := shB i a n (shY i s n j)
theorem sh_loop (i : Int) (a s : Nat) {n : Nat} (hn : n = 32 ∨ n = 64) (hs : s < n) (ha : a < 18446744073709551616) : ∀ (d k j : Nat), j + d = n →
    grommetref03_shift.l0 (k + 5 * d + 1) i a s n ((build (shF i a s n) j : Nat) : Int) (j : Int) = some ((build (shF i a s n) n : Nat) : Int) := by
  intro d
  induction d with
  | zero => intro k j h; obtain rfl : j = n := by omega
            rw [grommetref03_shift.l0, if_neg (by omega)]
  | succ d ih =>
    intro k j h
    rw [show k + 5 * (d + 1) + 1 = (k + 5 * d + 1) + 5 from by omega, sh_j1 i a s hn hs _ j (by omega), sh_j2 i a s hn hs _ j (by omega), sh_j3 i a s hn ha _ j (by omega)]
    rw [orstep _ j _ (build_lt _ j) (by omega), w64 _ (by omega) (by omega), show (j : Int) + 1 = ((j + 1 : Nat) : Int) from by omega]
    exact ih k (j + 1) (by omega)
theorem sh_f (i : Int) (a s : Nat) {n : Nat} (hn : n = 32 ∨ n = 64) (hs : s < n) (ha : a < 18446744073709551616) (k : Nat) (hk : 400 ≤ k) :
    grommetref03_shift.f k i a s n = some ((build (shF i a s n) n : Nat) : Int) := by
  unfold grommetref03_shift.f
  have := sh_loop i a s hn hs ha n (k - 5 * n - 1) 0 (by omega)
  rw [show k - 5 * n - 1 + 5 * n + 1 = k from by omega] at this
  exact this

/-- What each of the five makes. -/
theorem sh_left {a s n : Nat} (ha : a < 2 ^ n) (hs : s < n) : build (shF 0 a s n) n = (a * 2 ^ s) % 2 ^ n := by
  refine build_eq (Nat.mod_lt _ (Nat.two_pow_pos n)) (fun j hj => ?_)
  rw [Nat.testBit_mod_two_pow, Nat.testBit_mul_two_pow]
  have hY : shY 0 s n j = (j : Int) - s := by unfold shY shX; rw [if_neg (by decide), if_pos (.inl rfl)]
  unfold shF
  rw [hY]
  unfold shB
  by_cases h : s ≤ j
  · rw [if_pos (by omega), show ((j : Int) - s).toNat = j - s from by omega]
    simp [h, hj]
  · rw [if_neg (by omega), if_neg (fun q => absurd q.1 (by decide))]
    simp [h]
theorem sh_right {a s n : Nat} (ha : a < 2 ^ n) (hs : s < n) : build (shF 2 a s n) n = a / 2 ^ s := by
  refine build_eq (Nat.lt_of_le_of_lt (Nat.div_le_self _ _) ha) (fun j hj => ?_)
  rw [Nat.testBit_div_two_pow]
  have hY : shY 2 s n j = (j : Int) + s := by unfold shY shX; rw [if_neg (by decide), if_neg (by decide)]
  unfold shF
  rw [hY]
  unfold shB
  by_cases h : j + s < n
  · rw [if_pos (by omega), show ((j : Int) + s).toNat = j + s from by omega]
    try rw [Nat.add_comm]
  · rw [if_neg (by omega), if_neg (fun q => absurd q.1 (by decide))]
    exact (Nat.testBit_lt_two_pow (Nat.lt_of_lt_of_le ha (Nat.pow_le_pow_right (by decide) (by omega)))).symm
theorem sh_sar {a s n : Nat} (ha : a < 2 ^ n) (hs : s < n) : build (shF 1 a s n) n = if a.testBit (n - 1) = true then a / 2 ^ s + 2 ^ (n - s) * (2 ^ s - 1) else a / 2 ^ s := by
  have hY : ∀ j, shY 1 s n j = (j : Int) + s := fun j => by unfold shY shX; rw [if_neg (by decide), if_neg (by decide)]
  have hq : 2 ^ s * 2 ^ (n - s) = 2 ^ n := by rw [← Nat.pow_add]; congr 1; omega
  have hl : a / 2 ^ s < 2 ^ (n - s) := by rw [Nat.div_lt_iff_lt_mul (Nat.two_pow_pos _), Nat.mul_comm, hq]; exact ha
  have hF : ∀ j, shF 1 a s n j = if j + s < n then a.testBit (j + s) else a.testBit (n - 1) := fun j => by
    unfold shF
    rw [hY]
    unfold shB
    by_cases h : j + s < n
    · rw [if_pos (by omega), if_pos h, show ((j : Int) + s).toNat = j + s from by omega]
    · rw [if_neg (by omega), if_pos ⟨rfl, by omega⟩, if_neg h]
  by_cases ht : a.testBit (n - 1) = true
  · rw [if_pos ht]
    refine build_eq ?_ (fun j hj => ?_)
    · have h1 : 2 ^ (n - s) * (2 ^ s - 1) = 2 ^ n - 2 ^ (n - s) := by rw [Nat.mul_sub, Nat.mul_one, Nat.mul_comm, hq]
      have h2 : 2 ^ (n - s) ≤ 2 ^ n := Nat.pow_le_pow_right (by decide) (by omega)
      omega
    · rw [hF, Nat.add_comm (a / 2 ^ s), Nat.testBit_two_pow_mul_add _ hl, Nat.testBit_div_two_pow]
      by_cases h : j + s < n
      · rw [if_pos h, if_pos (by omega)]
        try rw [Nat.add_comm]
      · rw [if_neg h, if_neg (by omega), ht, Nat.testBit_two_pow_sub_one]
        have : j - (n - s) < s := by omega
        simp [this]
  · rw [if_neg ht]
    refine build_eq (Nat.lt_of_le_of_lt (Nat.div_le_self _ _) ha) (fun j hj => ?_)
    rw [hF, Nat.testBit_div_two_pow]
    by_cases h : j + s < n
    · rw [if_pos h]
      try rw [Nat.add_comm]
    · rw [if_neg h, (by simpa using ht : a.testBit (n - 1) = false)]
      exact (Nat.testBit_lt_two_pow (Nat.lt_of_lt_of_le ha (Nat.pow_le_pow_right (by decide) (by omega)))).symm
theorem rot_bit {a s n : Nat} (ha : a < 2 ^ n) (hs : s < n) (j : Nat) (hj : j < n) : (rot n a s).testBit j = a.testBit ((j + n - s) % n) := by
  obtain ⟨_, e1, l1⟩ := rot_lt n a s (by omega) ha
  unfold rot
  rw [e1, Nat.testBit_two_pow_mul_add _ l1]
  by_cases h : j < s
  · rw [if_pos h, Nat.testBit_div_two_pow, Nat.mod_eq_of_lt (by omega)]
    congr 1; omega
  · rw [if_neg h, Nat.testBit_mod_two_pow, show (j + n - s) % n = j - s from by rw [show j + n - s = (j - s) + n from by omega, Nat.add_mod_right, Nat.mod_eq_of_lt (by omega)]]
    have : j - s < n - s := by omega
    simp [this]
theorem sh_rotl {a s n : Nat} (ha : a < 2 ^ n) (hs : s < n) : build (shF 3 a s n) n = rot n a s := by
  refine build_eq (rot_lt n a s (by omega) ha).1 (fun j hj => ?_)
  rw [rot_bit ha hs j hj]
  have hY : shY 3 s n j = ((j : Int) - s + n) % n := by unfold shY shX; rw [if_pos (by decide), if_pos (.inr rfl)]
  unfold shF
  rw [hY]
  unfold shB
  have e : ((j : Int) - s + n) % n = ((j + n - s) % n : Nat) := by
    rw [show (j : Int) - s + n = ((j + n - s : Nat) : Int) from by omega]; rfl
  have hl := Nat.mod_lt (j + n - s) (show 0 < n by omega)
  rw [e, if_pos (by omega)]
  rfl
theorem sh_rotr {a s n : Nat} (ha : a < 2 ^ n) (hs : s < n) : build (shF 4 a s n) n = rot n a ((n - s) % n) := by
  have hl0 := Nat.mod_lt (n - s) (show 0 < n by omega)
  refine build_eq (rot_lt n a _ (by omega) ha).1 (fun j hj => ?_)
  rw [rot_bit ha hl0 j hj]
  have hY : shY 4 s n j = ((j : Int) + s + n) % n := by unfold shY shX; rw [if_pos (by decide), if_neg (by decide)]
  unfold shF
  rw [hY]
  unfold shB
  have e : ((j : Int) + s + n) % n = ((j + s + n) % n : Nat) := rfl
  have hl := Nat.mod_lt (j + s + n) (show 0 < n by omega)
  rw [e, if_pos (by omega)]
  show a.testBit ((j + s + n) % n) = _
  congr 1
  rcases Nat.eq_zero_or_pos s with rfl | h0
  · rw [Nat.sub_zero, Nat.mod_self, Nat.add_zero, Nat.sub_zero]
  · rw [Nat.mod_eq_of_lt (show n - s < n by omega), show j + n - (n - s) = j + s from by omega, Nat.add_mod_right]
end Go.Proofs.YtgplakhkofchiaaDoor.QNumEvals
