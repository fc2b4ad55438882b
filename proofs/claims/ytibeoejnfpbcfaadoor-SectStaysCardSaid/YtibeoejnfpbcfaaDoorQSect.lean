/- What the printed functions of leb answer, said by LebMath's words. -/
import Derived.Test.YtibeoejnfpbcfaaDoorLebBits2
import Derived.Test.YtibeoejnfpbcfaaDoorRSectSplitsx1
import Derived.Test.YtibeoejnfpbcfaaDoorRSectSplitsx3
set_option linter.unusedVariables false
set_option linter.unusedSimpArgs false
namespace Go.Proofs.YtibeoejnfpbcfaaDoor.QSect
open Go.RowKit Go.Proofs.YtibeoejnfpbcfaaDoor.RSectSplits Go.Proofs.YtibeoejnfpbcfaaDoorW.PrintWords Go.Proofs.YtibeoejnfpbcfaaDoorW.PrintLast Go.Proofs.YtibeoejnfpbcfaaDoorW.PrintMore Go.Proofs.YtibeoejnfpbcfaaDoor.Leb

theorem rd_drop (l : List Int) (at_ : Nat) (h : at_ < l.length) : l.drop at_ = rd l (at_ : Int) :: l.drop (at_ + 1) := by
  rw [List.drop_eq_getElem_cons h]
  simp [rd, List.getD, h]

theorem rd_bytes {l : List Int} (hb : Bytes l) (i : Int) : 0 ≤ rd l i ∧ rd l i < 256 := by
  unfold rd List.getD
  cases h : l[i.toNat]? with
  | none => simp
  | some x => exact hb x (List.mem_of_getElem? h)

theorem raw_l0 (l : List Int) (hb : Bytes l) (hl : l.length ≤ 9223372036854775000) (bits R : Nat) (hR : R = (bits + 6) / 7) (h64 : bits ≤ 64) :
    ∀ (m i k at_ v : Nat), m + i = R → m < k → at_ ≤ l.length → v < 2 ^ (7 * i) →
      leb_raw.l0 k l (at_ : Int) (bits : Int) (v : Int) ((7 * i : Nat) : Int) = some (match scan m (l.drop at_) with
        | none => (0, 0, 0, false)
        | some (D, N) => (((v + 2 ^ (7 * i) * D) % 2 ^ 64 : Nat), ((7 * (i + N) : Nat) : Int), ((at_ + N : Nat) : Int), true)) := by
  intro m
  induction m with
  | zero =>
    intro i k at_ v hm hk ha hv
    obtain ⟨k, rfl⟩ : ∃ j, k = j + 1 := ⟨k - 1, by omega⟩
    simp only [leb_raw.l0, scan]
    rw [if_neg (by omega)]
  | succ m ih =>
    intro i k at_ v hm hk ha hv
    obtain ⟨k, rfl⟩ : ∃ j, k = j + 1 := ⟨k - 1, by omega⟩
    simp only [leb_raw.l0]
    rw [if_pos (by omega)]
    by_cases he : at_ < l.length
    · rw [if_neg (by omega), if_pos (by omega), if_pos (by omega), if_pos (by omega)]
      have hx := rd_bytes hb (at_ : Int)
      rw [rd_drop l at_ he]
      generalize rd l (at_ : Int) = x at hx ⊢
      rw [and127 x hx.1 hx.2, show IntKind.u64.wrap (x % 128) = ((x.toNat % 128 : Nat) : Int) from by rw [wrap_u64]; omega]
      rw [or_step v _ (7 * i) hv (by omega) (Nat.mod_lt _ (by decide))]
      rw [w64 (at_ + 1) (by omega) (by omega), w64 (((7 * i : Nat) : Int) + 7) (by omega) (by omega)]
      by_cases hx1 : x < 128
      · rw [if_pos hx1]
        simp only [scan]
        rw [if_pos hx1]
        have e : x.toNat % 128 = x.toNat := Nat.mod_eq_of_lt (by omega)
        rw [e]
        have e1 : ((7 * i : Nat) : Int) + 7 = ((7 * (i + 1) : Nat) : Int) := by omega
        rw [e1]
        rfl
      · rw [if_neg hx1]
        simp only [scan]
        rw [if_neg hx1]
        have e1 : ((7 * i : Nat) : Int) + 7 = ((7 * (i + 1) : Nat) : Int) := by omega
        have e2 : (at_ : Int) + 1 = ((at_ + 1 : Nat) : Int) := by omega
        have hp : 2 ^ (7 * (i + 1)) = 2 ^ (7 * i) * 128 := by rw [show 7 * (i + 1) = 7 * i + 7 from by omega, Nat.pow_add]
        have hd : x.toNat % 128 < 128 := Nat.mod_lt _ (by decide)
        have hv2 : (v + 2 ^ (7 * i) * (x.toNat % 128)) % 2 ^ 64 < 2 ^ (7 * (i + 1)) := by
          refine Nat.lt_of_le_of_lt (Nat.mod_le _ _) ?_
          rw [hp]
          have := Nat.mul_le_mul_left (2 ^ (7 * i)) (show x.toNat % 128 + 1 ≤ 128 from hd)
          rw [Nat.mul_add] at this
          omega
        rw [e1, e2, ih (i + 1) k (at_ + 1) _ (by omega) (by omega) (by omega) hv2]
        cases scan m (l.drop (at_ + 1)) with
        | none => rfl
        | some p =>
          obtain ⟨D, N⟩ := p
          simp only [Option.map_some]
          congr 2
          · congr 1
            rw [Nat.mod_add_mod, hp, Nat.mul_add, Nat.mul_assoc, Nat.add_assoc]
          · refine Prod.ext ?_ (Prod.ext ?_ rfl)
            · show ((7 * (i + 1 + N) : Nat) : Int) = ((7 * (i + (N + 1)) : Nat) : Int); omega
            · show ((at_ + 1 + N : Nat) : Int) = ((at_ + (N + 1) : Nat) : Int); omega
    · rw [if_pos (by omega)]
      rw [List.drop_eq_nil_of_le (by omega)]
      rfl

theorem raw_f (l : List Int) (hb : Bytes l) (hl : l.length ≤ 9223372036854775000) (bits at_ k : Nat) (h64 : bits ≤ 64) (hk : 11 < k) (ha : at_ ≤ l.length) :
    leb_raw.f k l (at_ : Int) (bits : Int) = some (match scan ((bits + 6) / 7) (l.drop at_) with
        | none => (0, 0, 0, false)
        | some (D, N) => ((D % 2 ^ 64 : Nat), ((7 * N : Nat) : Int), ((at_ + N : Nat) : Int), true)) := by
  have h := raw_l0 l hb hl bits ((bits + 6) / 7) rfl h64 ((bits + 6) / 7) 0 k at_ 0 (by omega) (by omega) ha (by simp)
  unfold leb_raw.f
  simp only [Nat.mul_zero, Nat.zero_add, Nat.pow_zero, Nat.one_mul] at h
  exact h

def May (l : List Int) (at_ bits : Int) : Prop := 1 ≤ bits ∧ bits ≤ 64 ∧ 0 ≤ at_ ∧ at_ ≤ (l.length : Int)
theorem may_yes {l : List Int} {at_ bits : Int} (h : May l at_ bits) : leb_may.f l at_ bits = some true := by
  obtain ⟨h1, h2, h3, h4⟩ := h
  unfold leb_may.f
  rw [if_pos (by omega), if_pos (by omega), if_pos (by omega)]
  simp; omega
theorem may_no {l : List Int} {at_ bits : Int} (h : ¬ May l at_ bits) : leb_may.f l at_ bits = some false := by
  unfold leb_may.f
  unfold May at h
  by_cases h1 : bits ≥ 1
  · rw [if_pos h1]
    by_cases h2 : bits ≤ 64
    · rw [if_pos h2]
      by_cases h3 : at_ ≥ 0
      · rw [if_pos h3]; simp; omega
      · rw [if_neg h3]
    · rw [if_neg h2]
  · rw [if_neg h1]

theorem U_no {l : List Int} {at_ bits : Int} (k : Nat) (h : ¬ May l at_ bits) : leb_U.f k l at_ bits = some (0, 0, some 1) := by
  unfold leb_U.f; rw [may_no h]; rfl
theorem last_byte {l : List Int} (hb : Bytes l) {n at_ D N : Nat} (h : scan n (l.drop at_) = some (D, N)) :
    1 ≤ N ∧ N ≤ n ∧ at_ + N ≤ l.length ∧ D < 128 ^ N ∧ rd l ((at_ + N : Nat) - 1 : Int) = ((D / 128 ^ (N - 1) : Nat) : Int) ∧ D / 128 ^ (N - 1) < 128 := by
  obtain ⟨h1, h2, h3, h4, h5, h6⟩ := scan_facts n _ (hb.drop at_) D N h
  rw [List.length_drop] at h3
  refine ⟨h1, h2, by omega, h4, ?_, h6⟩
  rw [← h5]
  unfold rd
  rw [show ((at_ + N : Nat) - 1 : Int).toNat = at_ + (N - 1) from by omega]
  simp [List.getD]

theorem U_yes (l : List Int) (hb : Bytes l) (hl : l.length ≤ 9223372036854775000) (bits at_ k : Nat) (h1 : 1 ≤ bits) (h64 : bits ≤ 64) (hk : 11 < k) (ha : at_ ≤ l.length) :
    leb_U.f k l (at_ : Int) (bits : Int) = some (match scan ((bits + 6) / 7) (l.drop at_) with
        | none => (0, 0, some 2)
        | some (D, N) => if D < 2 ^ bits then ((D : Int), ((at_ + N : Nat) : Int), none) else (0, 0, some 2)) := by
  unfold leb_U.f
  rw [may_yes ⟨by omega, by omega, by omega, by omega⟩]
  simp only [Option.bind_some, if_true]
  rw [raw_f l hb hl bits at_ k h64 hk ha]
  simp only [Option.bind_some]
  cases hs : scan ((bits + 6) / 7) (l.drop at_) with
  | none => simp
  | some p =>
    obtain ⟨D, N⟩ := p
    obtain ⟨g1, g2, g3, g4, g5, g6⟩ := last_byte hb hs
    simp only [if_true]
    have hpos : 0 < 128 ^ (N - 1) := Nat.pow_pos (by decide)
    have hN : 128 ^ N = 128 ^ (N - 1) * 128 := by rw [← Nat.pow_succ]; congr 1; omega
    have h264 : 2 ^ bits ≤ 2 ^ 64 := Nat.pow_le_pow_right (by decide) h64
    by_cases hg : 7 * N ≤ bits
    · rw [if_neg (by omega)]
      have : 128 ^ N ≤ 2 ^ bits := by rw [pow128]; exact Nat.pow_le_pow_right (by decide) hg
      rw [if_pos (by omega), Nat.mod_eq_of_lt (by omega)]
    · rw [if_pos (by omega)]
      rw [w64 (((at_ + N : Nat) : Int) - 1) (by omega) (by omega)]
      rw [if_pos (by omega), if_pos (by omega)]
      rw [w64 ((bits : Int) + 7) (by omega) (by omega), w64 _ (by omega) (by omega), if_pos (by omega), g5]
      obtain ⟨s, hs7, e⟩ : ∃ s : Nat, s ≤ 8 ∧ (bits : Int) + 7 - ((7 * N : Nat) : Int) = (s : Int) := ⟨bits + 7 - 7 * N, by omega, by omega⟩
      have hbits : bits = 7 * (N - 1) + s := by omega
      rw [e, shr_u8 _ s hs7]
      have e2 : 2 ^ bits = 128 ^ (N - 1) * 2 ^ s := by rw [hbits, Nat.pow_add, pow128]
      have e3 : (((D / 128 ^ (N - 1) / 2 ^ s : Nat) : Int) = 0) ↔ D < 2 ^ bits := by
        rw [Nat.div_div_eq_div_mul, ← e2]
        have := Nat.div_eq_zero_iff_lt (Nat.two_pow_pos bits) (x := D)
        omega
      by_cases hD : D < 2 ^ bits
      · rw [if_pos (e3.2 hD), if_pos hD, Nat.mod_eq_of_lt (by omega)]
      · rw [if_neg (fun h => hD (e3.1 h)), if_neg hD]

/-- Does a signed value lie within so many bits? -/
def SIn (s : Int) (bits : Nat) : Prop := -((2 ^ (bits - 1) : Nat) : Int) ≤ s ∧ s < ((2 ^ (bits - 1) : Nat) : Int)
instance (s : Int) (bits : Nat) : Decidable (SIn s bits) := inferInstanceAs (Decidable (_ ∧ _))

theorem PutU_l0 : ∀ (m n : Nat), n < 128 ^ m → 1 ≤ m → ∀ (k : Nat) (out : List Int), m < k → out.length + m < 140737488355328 → leb_PutU.l0 k (n : Int) out = some (out ++ encU n) := by
  intro m
  induction m with
  | zero => intro n _ h; omega
  | succ m ih =>
    intro n hn _ k out hk ho
    obtain ⟨k, rfl⟩ : ∃ j, k = j + 1 := ⟨k - 1, by omega⟩
    simp only [leb_PutU.l0]
    by_cases h : n < 128
    · rw [if_neg (by omega), if_pos (by omega), encU_small h, Int.emod_eq_of_lt (by omega) (by omega)]
    · rw [if_pos (by omega), if_pos (by omega), encU_great h, or128 _ (by omega) (by omega)]
      rcases Nat.eq_zero_or_pos m with rfl | hm
      · omega
      · have e : (n : Int) / 128 = ((n / 128 : Nat) : Int) := by omega
        have e2 : (n : Int) % 256 % 128 + 128 = ((n % 128 + 128 : Nat) : Int) := by omega
        rw [e, e2, ih (n / 128) (by rw [Nat.pow_succ] at hn; omega) hm k _ (by omega) (by simp; omega)]
        simp

theorem PutU_f (n k : Nat) (hn : n < 2 ^ 64) (hk : 11 < k) : leb_PutU.f k (n : Int) = some (encU n) := by
  unfold leb_PutU.f
  rw [PutU_l0 10 n (Nat.lt_of_lt_of_le hn (by decide)) (by omega) k [] (by omega) (by simp)]
  simp

/-! ### the reference -/
theorem digits_l0 (l : List Int) (hb : Bytes l) (hl : l.length ≤ 9223372036854775000) (R : Nat) (hR : R ≤ 100) :
    ∀ (m k at_ : Nat) (out : List Int), out.length + m = R → 2 * m + 2 ≤ k → at_ ≤ l.length →
      grommetref01_digits.l0 k l (at_ : Int) (R : Int) out = some (match scan m (l.drop at_) with
        | none => ([], 0, false)
        | some (D, N) => (out ++ dg N D, ((at_ + N : Nat) : Int), true)) := by
  intro m
  induction m with
  | zero =>
    intro k at_ out hm hk ha
    obtain ⟨k, rfl⟩ : ∃ j, k = j + 1 + 1 := ⟨k - 2, by omega⟩
    simp only [grommetref01_digits.l0, scan]
    rw [if_neg (by omega)]
    simp only [grommetref01_digits.j1]
    rw [if_neg (by decide)]
  | succ m ih =>
    intro k at_ out hm hk ha
    obtain ⟨k, rfl⟩ : ∃ j, k = j + 1 + 1 := ⟨k - 2, by omega⟩
    simp only [grommetref01_digits.l0]
    rw [if_pos (by omega)]
    simp only [grommetref01_digits.j1]
    by_cases he : at_ < l.length
    · rw [show decide ((at_ : Int) < (l.length : Int)) = true from by simp only [decide_eq_true_eq]; omega, if_pos rfl, if_pos (by omega), if_pos (by omega), if_pos (by omega)]
      have hx := rd_bytes hb (at_ : Int)
      rw [rd_drop l at_ he]
      rw [Option.bind_some, w64 ((at_ : Int) + 1) (by omega) (by omega), w64 ((at_ : Int) + 1 - 1) (by omega) (by omega)]
      rw [if_pos (by omega), if_pos (by omega), show (at_ : Int) + 1 - 1 = (at_ : Int) from by omega]
      generalize rd l (at_ : Int) = x at hx ⊢
      rw [w64 x (by omega) (by omega), Int.tmod_eq_emod_of_nonneg hx.1]
      have ex : x % 128 = ((x.toNat % 128 : Nat) : Int) := by omega
      by_cases hx1 : x < 128
      · rw [if_pos hx1]
        simp only [scan]
        rw [if_pos hx1]
        simp only [dg]
        rw [ex, show (at_ : Int) + 1 = ((at_ + 1 : Nat) : Int) from by omega]
      · rw [if_neg hx1]
        simp only [scan]
        rw [if_neg hx1]
        have e2 : (at_ : Int) + 1 = ((at_ + 1 : Nat) : Int) := by omega
        rw [e2, ih k (at_ + 1) _ (by simp; omega) (by omega) (by omega)]
        cases scan m (l.drop (at_ + 1)) with
        | none => rfl
        | some p =>
          obtain ⟨D, N⟩ := p
          simp only [Option.map_some]
          have ed : dg (N + 1) (x.toNat % 128 + 128 * D) = (x % 128) :: dg N D := by
            simp only [dg]
            rw [show (x.toNat % 128 + 128 * D) % 128 = x.toNat % 128 from by omega, show (x.toNat % 128 + 128 * D) / 128 = D from by omega, ex]
          rw [ed, List.append_assoc, List.singleton_append, show at_ + 1 + N = at_ + (N + 1) from by omega]
    · rw [show decide ((at_ : Int) < (l.length : Int)) = false from by simp only [decide_eq_false_iff_not]; omega, if_neg (by decide)]
      rw [List.drop_eq_nil_of_le (by omega)]
      rfl

theorem Read_l1 (bits : Int) (sg : Bool) (L : List Int) (nx i : Int) (hi : 0 ≤ i ∧ i < 1000) : ∀ (j k x : Nat) (out : List Int), j ≤ 7 → out.length + j < 1000 → x < 1000 →
    grommetref01_Read.l1 (k + j + 1) bits sg L nx out i (x : Int) ((7 - j : Nat) : Int) = grommetref01_Read.l0 k bits sg L nx (out ++ bs j x) (i + 1) := by
  intro j
  induction j with
  | zero =>
    intro k x out hj ho hx
    simp only [grommetref01_Read.l1, Nat.add_zero]
    rw [if_neg (by omega), w64 _ (by omega) (by omega)]
    simp [bs]
  | succ j ih =>
    intro k x out hj ho hx
    rw [show k + (j + 1) + 1 = (k + j + 1) + 1 from by omega]
    rw [grommetref01_Read.l1]
    rw [if_pos (by omega), if_pos (by omega), Int.tmod_eq_emod_of_nonneg (by omega), Int.tdiv_eq_ediv_of_nonneg (by omega)]
    rw [w64 ((x : Int) / 2) (by omega) (by omega), w64 (((7 - (j + 1) : Nat) : Int) + 1) (by omega) (by omega)]
    have e1 : ((7 - (j + 1) : Nat) : Int) + 1 = ((7 - j : Nat) : Int) := by omega
    have e2 : (x : Int) / 2 = ((x / 2 : Nat) : Int) := by omega
    have e3 : (x : Int) % 2 = ((x % 2 : Nat) : Int) := by omega
    rw [e1, e2, e3, ih k (x / 2) (out ++ [((x % 2 : Nat) : Int)]) (by omega) (by simp; omega) (by omega)]
    rw [List.append_assoc]; rfl

theorem Read_l0 (bits : Int) (sg : Bool) (N D : Nat) (nx : Int) (hN : N ≤ 10) : ∀ (d k i : Nat), i + d = N →
    grommetref01_Read.l0 (k + 9 * d) bits sg (dg N D) nx (bs (7 * i) D) (i : Int) = grommetref01_Read.l0 k bits sg (dg N D) nx (bs (7 * N) D) (N : Int) := by
  intro d
  induction d with
  | zero => intro k i h; obtain rfl : i = N := by omega
            rfl
  | succ d ih =>
    intro k i h
    rw [show k + 9 * (d + 1) = ((k + 9 * d) + 7 + 1) + 1 from by omega]
    rw [show grommetref01_Read.l0 ((k + 9 * d) + 7 + 1 + 1) bits sg (dg N D) nx (bs (7 * i) D) (i : Int) = grommetref01_Read.l1 ((k + 9 * d) + 7 + 1) bits sg (dg N D) nx (bs (7 * i) D) (i : Int) (rd (dg N D) (i : Int)) 0 from by
      simp only [grommetref01_Read.l0]
      rw [if_pos (by rw [dg_length]; omega), if_pos (by omega)]]
    rw [dg_rd N D i (by omega)]
    have := Read_l1 bits sg (dg N D) nx (i : Int) (by omega) 7 (k + 9 * d) (D / 128 ^ i % 128) (bs (7 * i) D) (Nat.le_refl _) (by rw [bs_length]; omega) (by omega)
    rw [show ((7 - 7 : Nat) : Int) = 0 from rfl] at this
    rw [this]
    have e : bs (7 * i) D ++ bs 7 (D / 128 ^ i % 128) = bs (7 * (i + 1)) D := by
      rw [show 7 * (i + 1) = 7 * i + 7 from by omega, bs_append, pow128]
      congr 1
      exact bs_mod 7 (D / 2 ^ (7 * i))
    rw [e, show (i : Int) + 1 = ((i + 1 : Nat) : Int) from by omega]
    exact ih k (i + 1) (by omega)

theorem Read_l3 (bits : Nat) (nx : Int) (n D more T : Nat) (hb : bits ≤ 64) (hn : n ≤ 1000) (hm : more ≤ 1) (hT : T < 2 ^ 64)
    (hbit : ∀ i, i < 64 → T / 2 ^ i % 2 = if i < n ∧ i < bits then D / 2 ^ i % 2 else more) : ∀ (j k : Nat), j ≤ 64 →
    grommetref01_Read.l3 (k + j + 1) (bits : Int) nx (bs n D) (more : Int) ((T / 2 ^ j : Nat) : Int) ((j : Int) - 1) = some ((T : Int), nx, true) := by
  intro j
  induction j with
  | zero =>
    intro k hj
    simp only [grommetref01_Read.l3, Nat.add_zero]
    rw [if_neg (by omega)]
    simp
  | succ j ih =>
    intro k hj
    rw [show k + (j + 1) + 1 = (k + j + 1) + 1 from by omega]
    simp only [grommetref01_Read.l3]
    rw [if_pos (by omega)]
    have ej : ((j + 1 : Nat) : Int) - 1 = (j : Int) := by omega
    rw [ej, w64 ((j : Int) - 1) (by omega) (by omega)]
    have h2 : T / 2 ^ j = 2 * (T / 2 ^ (j + 1)) + T / 2 ^ j % 2 := by
      rw [Nat.pow_succ, ← Nat.div_div_eq_div_mul]; omega
    have hle : T / 2 ^ j < 2 ^ 64 := Nat.lt_of_le_of_lt (Nat.div_le_self _ _) hT
    have hx := hbit j (by omega)
    have step : ∀ x : Int, x = ((T / 2 ^ j % 2 : Nat) : Int) → IntKind.u64.wrap ((IntKind.u64.wrap (((T / 2 ^ (j + 1) : Nat) : Int) * 2)) + (IntKind.u64.wrap x)) = ((T / 2 ^ j : Nat) : Int) := by
      intro x hx
      rw [wrap_u64, wrap_u64, wrap_u64, hx]
      generalize T / 2 ^ j = a at *
      generalize T / 2 ^ (j + 1) = b at *
      omega
    by_cases h1 : j < n
    · rw [if_pos (by rw [bs_length]; omega)]
      by_cases h3 : j < bits
      · rw [if_pos (by omega), if_pos (by omega), bs_rd n D j h1, step _ (by rw [hx, if_pos ⟨h1, h3⟩])]
        exact ih k (by omega)
      · rw [if_neg (by omega), step _ (by rw [hx, if_neg (by omega)])]
        exact ih k (by omega)
    · rw [if_neg (by rw [bs_length]; omega), step _ (by rw [hx, if_neg (by omega)])]
      exact ih k (by omega)

open Classical in
theorem Read_l2 (bits : Int) (nx : Int) (n D more : Nat) (hn : n ≤ 1000) : ∀ (d k i : Nat), i + d = n →
    grommetref01_Read.l2 (k + d + 1) bits nx (bs n D) (more : Int) (i : Int) = if AllB D more i n then grommetref01_Read.l3 k bits nx (bs n D) (more : Int) 0 63 else some (0, 0, false) := by
  intro d
  induction d with
  | zero =>
    intro k i h
    simp only [grommetref01_Read.l2, Nat.add_zero]
    rw [if_neg (by rw [bs_length]; omega), if_pos (allB_none (by omega))]
  | succ d ih =>
    intro k i h
    rw [show k + (d + 1) + 1 = (k + d + 1) + 1 from by omega]
    rw [grommetref01_Read.l2]
    rw [if_pos (by rw [bs_length]; omega), if_pos (by omega), bs_rd n D i (by omega), w64 _ (by omega) (by omega), show (i : Int) + 1 = ((i + 1 : Nat) : Int) from by omega]
    rw [ih k (i + 1) (by omega)]
    by_cases hb : D / 2 ^ i % 2 = more
    · rw [if_pos (by omega)]
      by_cases hA : AllB D more (i + 1) n
      · rw [if_pos hA, if_pos ((allB_step (by omega)).2 ⟨hb, hA⟩)]
      · rw [if_neg hA, if_neg (fun h => hA ((allB_step (by omega)).1 h).2)]
    · rw [if_neg (by omega), if_neg (fun h => hb ((allB_step (by omega)).1 h).1)]

open Classical in
/-- What the reference answers from the point on where it knows what all further bits must be. -/
theorem Read_j2 (bits : Nat) (nx : Int) (N D more : Nat) (hN : N ≤ 10) (hb : bits ≤ 64) (hm : more ≤ 1) (k : Nat) (hk : 200 ≤ k) :
    grommetref01_Read.j2 k (bits : Int) nx (bs (7 * N) D) (more : Int) = if AllB D more bits (7 * N) then some (((fill D (min (7 * N) bits) more : Nat) : Int), nx, true) else some (0, 0, false) := by
  obtain ⟨k, rfl⟩ : ∃ j, k = j + 1 := ⟨k - 1, by omega⟩
  simp only [grommetref01_Read.j2]
  have l3 : ∀ k, 65 ≤ k → grommetref01_Read.l3 k (bits : Int) nx (bs (7 * N) D) (more : Int) 0 63 = some (((fill D (min (7 * N) bits) more : Nat) : Int), nx, true) := by
    intro k hk
    obtain ⟨k, rfl⟩ : ∃ j, k = j + 64 + 1 := ⟨k - 65, by omega⟩
    have hlt := fill_lt D (min (7 * N) bits) more (by omega) hm
    have := Read_l3 bits nx (7 * N) D more (fill D (min (7 * N) bits) more) hb (by omega) hm hlt (fun i hi => by
      rw [fill_bit D _ more i (by omega) hm hi]
      by_cases h : i < 7 * N ∧ i < bits
      · rw [if_pos h, if_pos (by omega)]
      · rw [if_neg h, if_neg (by omega)]) 64 k (Nat.le_refl _)
    rw [Nat.div_eq_of_lt hlt] at this
    exact this
  by_cases hlt : bits ≤ 7 * N
  · obtain ⟨k, rfl⟩ : ∃ j, k = j + (7 * N - bits) + 1 := ⟨k - (7 * N - bits) - 1, by omega⟩
    rw [Read_l2 (bits : Int) nx (7 * N) D more (by omega) (7 * N - bits) k bits (by omega), l3 k (by omega)]
  · obtain ⟨k, rfl⟩ : ∃ j, k = j + 1 := ⟨k - 1, by omega⟩
    simp only [grommetref01_Read.l2]
    rw [if_neg (by rw [bs_length]; omega), l3 k (by omega), if_pos (allB_none (by omega))]

/-- WHAT THE REFERENCE READS. -/
theorem Read_f (l : List Int) (hb : Bytes l) (hl : l.length ≤ 9223372036854775000) (bits at_ k : Nat) (sg : Bool) (h1 : 1 ≤ bits) (h64 : bits ≤ 64) (hk : 400 ≤ k) (ha : at_ ≤ l.length) :
    grommetref01_Read.f k l (at_ : Int) (bits : Int) sg = some (match scan ((bits + 6) / 7) (l.drop at_) with
      | none => (0, 0, false)
      | some (D, N) => if sg = true then (if SIn (sgn D N) bits then (IntKind.u64.wrap (sgn D N), ((at_ + N : Nat) : Int), true) else (0, 0, false)) else (if D < 2 ^ bits then ((D : Int), ((at_ + N : Nat) : Int), true) else (0, 0, false))) := by
  unfold grommetref01_Read.f
  rw [w64 ((bits : Int) + 6) (by omega) (by omega), Int.tdiv_eq_ediv_of_nonneg (by omega), w64 _ (by omega) (by omega)]
  rw [show ((bits : Int) + 6) / 7 = (((bits + 6) / 7 : Nat) : Int) from by omega]
  unfold grommetref01_digits.f
  rw [digits_l0 l hb hl ((bits + 6) / 7) (by omega) ((bits + 6) / 7) k at_ [] (by simp) (by omega) ha]
  simp only [Option.bind_some]
  cases hs : scan ((bits + 6) / 7) (l.drop at_) with
  | none => simp
  | some p =>
    obtain ⟨D, N⟩ := p
    obtain ⟨g1, g2, g3, g4, g5, g6⟩ := last_byte hb hs
    simp only [if_true, List.nil_append]
    obtain ⟨k, rfl⟩ : ∃ j, k = (j + 1) + 9 * N := ⟨k - 9 * N - 1, by omega⟩
    have hl0 := Read_l0 (bits : Int) sg N D ((at_ + N : Nat) : Int) (by omega) N (k + 1) 0 (by omega)
    rw [show bs (7 * 0) D = [] from rfl, show ((0 : Nat) : Int) = 0 from rfl] at hl0
    rw [hl0]
    have h7 : D < 2 ^ (7 * N) := by rw [← pow128]; exact g4
    simp only [grommetref01_Read.l0]
    rw [if_neg (by rw [dg_length]; omega)]
    have hL : ((bs (7 * N) D).length : Int) = ((7 * N : Nat) : Int) := by rw [bs_length]
    rw [hL]
    cases sg with
    | false =>
      simp only [Bool.false_eq_true, if_false]
      have e := Read_j2 bits ((at_ + N : Nat) : Int) N D 0 (by omega) h64 (by omega) k (by omega)
      rw [show ((0 : Nat) : Int) = 0 from rfl] at e
      rw [e]
      by_cases hD : D < 2 ^ bits
      · rw [if_pos hD, if_pos ((allB_zero h7).2 (Or.inl hD)), fill_zero]
        have : D % 2 ^ (min (7 * N) bits) = D := by
          rcases Nat.le_total (7 * N) bits with h | h
          · rw [Nat.min_eq_left h]; exact Nat.mod_eq_of_lt h7
          · rw [Nat.min_eq_right h]; exact Nat.mod_eq_of_lt hD
        rw [this]
      · have hnot : ¬ AllB D 0 bits (7 * N) := fun h => by
          rcases (allB_zero h7).1 h with h | h
          · exact hD h
          · exact hD (Nat.lt_of_lt_of_le h7 (Nat.pow_le_pow_right (by decide) h))
        rw [if_neg hD, if_neg hnot]
    | true =>
      simp only [if_true]
      rw [w64 (((7 * N : Nat) : Int) - 1) (by omega) (by omega), if_pos (by omega), if_pos (by omega)]
      have hN7 : 128 ^ N = 2 ^ (7 * N) := pow128 N
      by_cases hgt : bits < 7 * N
      · rw [if_pos (by omega), w64 ((bits : Int) - 1) (by omega) (by omega), if_pos (by omega), if_pos (by omega)]
        rw [show (bits : Int) - 1 = ((bits - 1 : Nat) : Int) from by omega, bs_rd _ _ _ (by omega)]
        rw [Read_j2 bits _ N D _ (by omega) h64 (by omega) k (by omega), Nat.min_eq_right (by omega)]
        have hp : 2 ^ bits = 2 * 2 ^ (bits - 1) := by rw [← Nat.pow_succ']; congr 1; omega
        have hle : 2 ^ bits ≤ 2 ^ 64 := Nat.pow_le_pow_right (by decide) h64
        have h2n : 2 * 2 ^ bits ≤ 2 ^ (7 * N) := by rw [← Nat.pow_succ']; exact Nat.pow_le_pow_right (by decide) hgt
        have hdm : 2 ^ bits * (D / 2 ^ bits) + D % 2 ^ bits = D := Nat.div_add_mod D (2 ^ bits)
        have hml := Nat.mod_lt D (Nat.two_pow_pos bits)
        have hbm : D / 2 ^ (bits - 1) % 2 = D % 2 ^ bits / 2 ^ (bits - 1) := by
          rw [hp, Nat.mul_comm, Nat.mod_mul_right_div_self]
        have hq := Nat.div_add_mod (D % 2 ^ bits) (2 ^ (bits - 1))
        have hql := Nat.mod_lt (D % 2 ^ bits) (Nat.two_pow_pos (bits - 1))
        rcases (show D / 2 ^ (bits - 1) % 2 = 0 ∨ D / 2 ^ (bits - 1) % 2 = 1 from by omega) with hm | hm
        · rw [hm]
          rw [hm] at hbm
          rw [← hbm, Nat.mul_zero] at hq
          by_cases hD : D < 2 ^ (bits - 1)
          · have hin : SIn (sgn D N) bits := by unfold SIn sgn; rw [if_pos (by omega)]; omega
            rw [if_pos ((allB_zero h7).2 (Or.inl (by omega))), if_pos hin, fill_zero, Nat.mod_eq_of_lt (by omega)]
            have : sgn D N = (D : Int) := by unfold sgn; rw [if_pos (by omega)]
            rw [this, wrap_u64, Int.emod_eq_of_lt (by omega) (by omega)]
          · have hnot : ¬ AllB D 0 bits (7 * N) := fun h => by
              rcases (allB_zero h7).1 h with h | h
              · rw [Nat.mod_eq_of_lt h] at hq hql; omega
              · omega
            have hnin : ¬ SIn (sgn D N) bits := by
              unfold SIn sgn
              split
              · omega
              · intro hh
                -- all ones above, and a zero at the sign's place
                have hge : 2 ^ (7 * N) ≤ D + 2 ^ (bits - 1) := by omega
                obtain ⟨c, hc⟩ : ∃ c, 2 ^ (7 * N) = 2 ^ bits * (c + 1) := by
                  refine ⟨2 ^ (7 * N - bits) - 1, ?_⟩
                  have := Nat.two_pow_pos (7 * N - bits)
                  rw [show 2 ^ (7 * N - bits) - 1 + 1 = 2 ^ (7 * N - bits) from by omega, ← Nat.pow_add]; congr 1; omega
                have hdc : D / 2 ^ bits ≤ c := by
                  rw [hc] at h7
                  have := (Nat.div_lt_iff_lt_mul (Nat.two_pow_pos bits)).2 (show D < (c + 1) * 2 ^ bits from by rw [Nat.mul_comm]; exact h7)
                  omega
                have hmul : 2 ^ bits * (D / 2 ^ bits) ≤ 2 ^ bits * c := Nat.mul_le_mul_left _ hdc
                rw [Nat.mul_add, Nat.mul_one] at hc
                omega
            rw [if_neg hnot, if_neg hnin]
        · rw [hm]
          rw [hm] at hbm
          rw [← hbm, Nat.mul_one] at hq
          by_cases hD : 2 ^ (7 * N) ≤ D + 2 ^ bits
          · have hA := (allB_one h7 (by omega)).2 hD
            obtain ⟨c, hc⟩ : ∃ c, 2 ^ (7 * N) = 2 ^ bits * (c + 1) := by
              refine ⟨2 ^ (7 * N - bits) - 1, ?_⟩
              have := Nat.two_pow_pos (7 * N - bits)
              rw [show 2 ^ (7 * N - bits) - 1 + 1 = 2 ^ (7 * N - bits) from by omega, ← Nat.pow_add]; congr 1; omega
            have hdc : D / 2 ^ bits = c := by
              rw [hc] at h7 hD
              have h1' := (Nat.div_lt_iff_lt_mul (Nat.two_pow_pos bits)).2 (show D < (c + 1) * 2 ^ bits from by rw [Nat.mul_comm]; exact h7)
              have h2' := (Nat.le_div_iff_mul_le (Nat.two_pow_pos bits)).2 (show c * 2 ^ bits ≤ D from by rw [Nat.mul_add, Nat.mul_one, Nat.mul_comm] at hD; omega)
              omega
            rw [hdc] at hdm
            rw [Nat.mul_add, Nat.mul_one] at hc
            have hin : SIn (sgn D N) bits := by unfold SIn sgn; rw [if_neg (by omega)]; omega
            have hs1 : sgn D N = (D : Int) - ((2 ^ (7 * N) : Nat) : Int) := by unfold sgn; rw [if_neg (by omega), hN7]
            rw [if_pos hA, if_pos hin, fill_one _ _ h64, hs1, wrap_u64]
            have : ((2 ^ 64 - 2 ^ bits + D % 2 ^ bits : Nat) : Int) = ((D : Int) - ((2 ^ (7 * N) : Nat) : Int)) % 18446744073709551616 := by
              generalize 2 ^ bits * c = bc at *
              generalize 2 ^ (7 * N) = P at *
              generalize D % 2 ^ bits = r at *
              generalize 2 ^ bits = B at *
              omega
            rw [this]
          · have hnot : ¬ AllB D 1 bits (7 * N) := fun h => hD ((allB_one h7 (by omega)).1 h)
            have hnin : ¬ SIn (sgn D N) bits := by
              unfold SIn sgn
              have : 2 ^ (bits - 1) ≤ D := by
                have := Nat.mod_le D (2 ^ bits); omega
              split <;> omega
            rw [if_neg hnot, if_neg hnin]
      · rw [if_neg (by omega), show ((7 * N : Nat) : Int) - 1 = ((7 * N - 1 : Nat) : Int) from by omega, bs_rd _ _ _ (by omega)]
        rw [Read_j2 bits _ N D _ (by omega) h64 (by omega) k (by omega), Nat.min_eq_left (by omega), if_pos (allB_none (by omega))]
        have hp : 2 ^ (7 * N) = 2 * 2 ^ (7 * N - 1) := by rw [← Nat.pow_succ']; congr 1; omega
        have hle : 2 ^ (7 * N) ≤ 2 ^ bits := Nat.pow_le_pow_right (by decide) (by omega)
        have hbp : 2 ^ bits = 2 * 2 ^ (bits - 1) := by rw [← Nat.pow_succ']; congr 1; omega
        have hle64 : 2 ^ bits ≤ 2 ^ 64 := Nat.pow_le_pow_right (by decide) h64
        have hr := sgn_range D N g4
        have hin : SIn (sgn D N) bits := by unfold SIn; omega
        rw [if_pos hin]
        have hdl : D / 2 ^ (7 * N - 1) < 2 := (Nat.div_lt_iff_lt_mul (Nat.two_pow_pos _)).2 (by omega)
        have hq := Nat.div_add_mod D (2 ^ (7 * N - 1))
        have hql := Nat.mod_lt D (Nat.two_pow_pos (7 * N - 1))
        rcases (show D / 2 ^ (7 * N - 1) = 0 ∨ D / 2 ^ (7 * N - 1) = 1 from by clear hq hql; generalize D / 2 ^ (7 * N - 1) = z at hdl ⊢; omega) with hm | hm
        · rw [hm] at hq ⊢
          rw [show 0 % 2 = 0 from rfl, fill_zero, Nat.mod_eq_of_lt h7]
          have : sgn D N = (D : Int) := by unfold sgn; rw [if_pos (by omega)]
          rw [this, wrap_u64, Int.emod_eq_of_lt (by omega) (by omega)]
        · rw [hm] at hq ⊢
          rw [show 1 % 2 = 1 from rfl, fill_one _ _ (by omega), Nat.mod_eq_of_lt h7]
          have : sgn D N = (D : Int) - ((2 ^ (7 * N) : Nat) : Int) := by unfold sgn; rw [if_neg (by omega), hN7]
          rw [this, wrap_u64]
          have : ((2 ^ 64 - 2 ^ (7 * N) + D : Nat) : Int) = ((D : Int) - ((2 ^ (7 * N) : Nat) : Int)) % 18446744073709551616 := by
            generalize 2 ^ (7 * N) = P at *
            omega
          rw [this]

end Go.Proofs.YtibeoejnfpbcfaaDoor.QSect
