/- What the printed functions of leb answer, said by LebMath's words. -/
import Derived.Test.YtmpdlkjchhajjaaLebMath
import Derived.Test.YtmpdlkjchhajjaaRLebStaysx2
set_option linter.unusedVariables false
set_option linter.unusedSimpArgs false
namespace Go.Proofs.Ytmpdlkjchhajjaa.QLebStays
open Go.RowKit Go.Proofs.Ytmpdlkjchhajjaa.RLebStays Go.Proofs.YtmpdlkjchhajjaaW.PrintWords Go.Proofs.YtmpdlkjchhajjaaW.PrintLast Go.Proofs.YtmpdlkjchhajjaaW.PrintMore Go.Proofs.Ytmpdlkjchhajjaa.Leb

theorem rd_drop (l : List Int) (at_ : Nat) (h : at_ < l.length) : l.drop at_ = rd l (at_ : Int) :: l.drop (at_ + 1) := by
  rw [List.drop_eq_getElem_cons h]
  simp [rd, List.getD, h]

theorem rd_bytes {l : List Int} (hb : Bytes l) (i : Int) : 0 ≤ rd l i ∧ rd l i < 256 := by
  unfold rd List.getD
  cases h : l[i.toNat]? with
  | none => simp
  | some x => exact hb x (List.mem_of_getElem? h)

theorem raw_l0 (l : List Int) (hb : Bytes l) (hl : l.length ≤ 9223372036854775000) (bits R : Nat) (hR : R = (bits + 6) / 7) (h64 : bits ≤ 64) :
    ∀ (m i k at_ v : Nat), m + i = R → m < k → at_ ≤ l.length → v < 2 ^ (7 * i) →
      leb_raw.l0 k l (at_ : Int) (bits : Int) (v : Int) ((7 * i : Nat) : Int) = some (match scan m (l.drop at_) with
        | none => (0, 0, 0, false)
        | some (D, N) => (((v + 2 ^ (7 * i) * D) % 2 ^ 64 : Nat), ((7 * (i + N) : Nat) : Int), ((at_ + N : Nat) : Int), true)) := by
  intro m
  induction m with
  | zero =>
    intro i k at_ v hm hk ha hv
    obtain ⟨k, rfl⟩ : ∃ j, k = j + 1 := ⟨k - 1, by omega⟩
    simp only [leb_raw.l0, scan]
    rw [if_neg (by omega)]
  | succ m ih =>
    intro i k at_ v hm hk ha hv
    obtain ⟨k, rfl⟩ : ∃ j, k = j + 1 := ⟨k - 1, by omega⟩
    simp only [leb_raw.l0]
    rw [if_pos (by omega)]
    by_cases he : at_ < l.length
    · rw [if_neg (by omega), if_pos (by omega), if_pos (by omega), if_pos (by omega)]
      have hx := rd_bytes hb (at_ : Int)
      rw [rd_drop l at_ he]
      generalize rd l (at_ : Int) = x at hx ⊢
      rw [and127 x hx.1 hx.2, show IntKind.u64.wrap (x % 128) = ((x.toNat % 128 : Nat) : Int) from by rw [wrap_u64]; omega]
      rw [or_step v _ (7 * i) hv (by omega) (Nat.mod_lt _ (by decide))]
      rw [w64 (at_ + 1) (by omega) (by omega), w64 (((7 * i : Nat) : Int) + 7) (by omega) (by omega)]
      by_cases hx1 : x < 128
      · rw [if_pos hx1]
        simp only [scan]
        rw [if_pos hx1]
        have e : x.toNat % 128 = x.toNat := Nat.mod_eq_of_lt (by omega)
        rw [e]
        have e1 : ((7 * i : Nat) : Int) + 7 = ((7 * (i + 1) : Nat) : Int) := by omega
        rw [e1]
        rfl
      · rw [if_neg hx1]
        simp only [scan]
        rw [if_neg hx1]
        have e1 : ((7 * i : Nat) : Int) + 7 = ((7 * (i + 1) : Nat) : Int) := by omega
        have e2 : (at_ : Int) + 1 = ((at_ + 1 : Nat) : Int) := by omega
        have hp : 2 ^ (7 * (i + 1)) = 2 ^ (7 * i) * 128 := by rw [show 7 * (i + 1) = 7 * i + 7 from by omega, Nat.pow_add]
        have hd : x.toNat % 128 < 128 := Nat.mod_lt _ (by decide)
        have hv2 : (v + 2 ^ (7 * i) * (x.toNat % 128)) % 2 ^ 64 < 2 ^ (7 * (i + 1)) := by
          refine Nat.lt_of_le_of_lt (Nat.mod_le _ _) ?_
          rw [hp]
          have := Nat.mul_le_mul_left (2 ^ (7 * i)) (show x.toNat % 128 + 1 ≤ 128 from hd)
          rw [Nat.mul_add] at this
          omega
        rw [e1, e2, ih (i + 1) k (at_ + 1) _ (by omega) (by omega) (by omega) hv2]
        cases scan m (l.drop (at_ + 1)) with
        | none => rfl
        | some p =>
          obtain ⟨D, N⟩ := p
          simp only [Option.map_some]
          congr 2
          · congr 1
            rw [Nat.mod_add_mod, hp, Nat.mul_add, Nat.mul_assoc, Nat.add_assoc]
          · refine Prod.ext ?_ (Prod.ext ?_ rfl)
            · show ((7 * (i + 1 + N) : Nat) : Int) = ((7 * (i + (N + 1)) : Nat) : Int); omega
            · show ((at_ + 1 + N : Nat) : Int) = ((at_ + (N + 1) : Nat) : Int); omega
    · rw [if_pos (by omega)]
      rw [List.drop_eq_nil_of_le (by omega)]
      rfl

theorem raw_f (l : List Int) (hb : Bytes l) (hl : l.length ≤ 9223372036854775000) (bits at_ k : Nat) (h64 : bits ≤ 64) (hk : 11 < k) (ha : at_ ≤ l.length) :
    leb_raw.f k l (at_ : Int) (bits : Int) = some (match scan ((bits + 6) / 7) (l.drop at_) with
        | none => (0, 0, 0, false)
        | some (D, N) => ((D % 2 ^ 64 : Nat), ((7 * N : Nat) : Int), ((at_ + N : Nat) : Int), true)) := by
  have h := raw_l0 l hb hl bits ((bits + 6) / 7) rfl h64 ((bits + 6) / 7) 0 k at_ 0 (by omega) (by omega) ha (by simp)
  unfold leb_raw.f
  simp only [Nat.mul_zero, Nat.zero_add, Nat.pow_zero, Nat.one_mul] at h
  exact h

def May (l : List Int) (at_ bits : Int) : Prop := 1 ≤ bits ∧ bits ≤ 64 ∧ 0 ≤ at_ ∧ at_ ≤ (l.length : Int)
theorem may_yes {l : List Int} {at_ bits : Int} (h : May l at_ bits) : leb_may.f l at_ bits = some true := by
  obtain ⟨h1, h2, h3, h4⟩ := h
  unfold leb_may.f
  rw [if_pos (by omega), if_pos (by omega), if_pos (by omega)]
  simp; omega
theorem may_no {l : List Int} {at_ bits : Int} (h : ¬ May l at_ bits) : leb_may.f l at_ bits = some false := by
  unfold leb_may.f
  unfold May at h
  by_cases h1 : bits ≥ 1
  · rw [if_pos h1]
    by_cases h2 : bits ≤ 64
    · rw [if_pos h2]
      by_cases h3 : at_ ≥ 0
      · rw [if_pos h3]; simp; omega
      · rw [if_neg h3]
    · rw [if_neg h2]
  · rw [if_neg h1]

theorem U_no {l : List Int} {at_ bits : Int} (k : Nat) (h : ¬ May l at_ bits) : leb_U.f k l at_ bits = some (0, 0, some 1) := by
  unfold leb_U.f; rw [may_no h]; rfl
theorem S_no {l : List Int} {at_ bits : Int} (k : Nat) (h : ¬ May l at_ bits) : leb_S.f k l at_ bits = some (0, 0, some 1) := by
  unfold leb_S.f; rw [may_no h]; rfl

/-- The last byte of what was read. -/
theorem last_byte {l : List Int} (hb : Bytes l) {n at_ D N : Nat} (h : scan n (l.drop at_) = some (D, N)) :
    1 ≤ N ∧ N ≤ n ∧ at_ + N ≤ l.length ∧ D < 128 ^ N ∧ rd l ((at_ + N : Nat) - 1 : Int) = ((D / 128 ^ (N - 1) : Nat) : Int) ∧ D / 128 ^ (N - 1) < 128 := by
  obtain ⟨h1, h2, h3, h4, h5, h6⟩ := scan_facts n _ (hb.drop at_) D N h
  rw [List.length_drop] at h3
  refine ⟨h1, h2, by omega, h4, ?_, h6⟩
  rw [← h5]
  unfold rd
  rw [show ((at_ + N : Nat) - 1 : Int).toNat = at_ + (N - 1) from by omega]
  simp [List.getD]

theorem U_yes (l : List Int) (hb : Bytes l) (hl : l.length ≤ 9223372036854775000) (bits at_ k : Nat) (h1 : 1 ≤ bits) (h64 : bits ≤ 64) (hk : 11 < k) (ha : at_ ≤ l.length) :
    leb_U.f k l (at_ : Int) (bits : Int) = some (match scan ((bits + 6) / 7) (l.drop at_) with
        | none => (0, 0, some 2)
        | some (D, N) => if D < 2 ^ bits then ((D : Int), ((at_ + N : Nat) : Int), none) else (0, 0, some 2)) := by
  unfold leb_U.f
  rw [may_yes ⟨by omega, by omega, by omega, by omega⟩]
  simp only [Option.bind_some, if_true]
  rw [raw_f l hb hl bits at_ k h64 hk ha]
  simp only [Option.bind_some]
  cases hs : scan ((bits + 6) / 7) (l.drop at_) with
  | none => simp
  | some p =>
    obtain ⟨D, N⟩ := p
    obtain ⟨g1, g2, g3, g4, g5, g6⟩ := last_byte hb hs
    simp only [if_true]
    have hpos : 0 < 128 ^ (N - 1) := Nat.pow_pos (by decide)
    have hN : 128 ^ N = 128 ^ (N - 1) * 128 := by rw [← Nat.pow_succ]; congr 1; omega
    have h264 : 2 ^ bits ≤ 2 ^ 64 := Nat.pow_le_pow_right (by decide) h64
    by_cases hg : 7 * N ≤ bits
    · rw [if_neg (by omega)]
      have : 128 ^ N ≤ 2 ^ bits := by rw [pow128]; exact Nat.pow_le_pow_right (by decide) hg
      rw [if_pos (by omega), Nat.mod_eq_of_lt (by omega)]
    · rw [if_pos (by omega)]
      rw [w64 (((at_ + N : Nat) : Int) - 1) (by omega) (by omega)]
      rw [if_pos (by omega), if_pos (by omega)]
      rw [w64 ((bits : Int) + 7) (by omega) (by omega), w64 _ (by omega) (by omega), if_pos (by omega), g5]
      obtain ⟨s, hs7, e⟩ : ∃ s : Nat, s ≤ 8 ∧ (bits : Int) + 7 - ((7 * N : Nat) : Int) = (s : Int) := ⟨bits + 7 - 7 * N, by omega, by omega⟩
      have hbits : bits = 7 * (N - 1) + s := by omega
      rw [e, shr_u8 _ s hs7]
      have e2 : 2 ^ bits = 128 ^ (N - 1) * 2 ^ s := by rw [hbits, Nat.pow_add, pow128]
      have e3 : (((D / 128 ^ (N - 1) / 2 ^ s : Nat) : Int) = 0) ↔ D < 2 ^ bits := by
        rw [Nat.div_div_eq_div_mul, ← e2]
        have := Nat.div_eq_zero_iff_lt (Nat.two_pow_pos bits) (x := D)
        omega
      by_cases hD : D < 2 ^ bits
      · rw [if_pos (e3.2 hD), if_pos hD, Nat.mod_eq_of_lt (by omega)]
      · rw [if_neg (fun h => hD (e3.1 h)), if_neg hD]

/-- Does a signed value lie within so many bits? -/
def SIn (s : Int) (bits : Nat) : Prop := -((2 ^ (bits - 1) : Nat) : Int) ≤ s ∧ s < ((2 ^ (bits - 1) : Nat) : Int)
instance (s : Int) (bits : Nat) : Decidable (SIn s bits) := inferInstanceAs (Decidable (_ ∧ _))

theorem or_high (D g : Nat) (hD : D < 2 ^ g) (hg : g ≤ 63) : Go.bits .or .u64 (D : Int) (shl .u64 18446744073709551615 (g : Int)) = ((D + (2 ^ 64 - 2 ^ g) : Nat) : Int) := by
  have hg64 : 2 ^ g ≤ 2 ^ 63 := Nat.pow_le_pow_right (by decide) hg
  have hq : 2 ^ g * 2 ^ (64 - g) = 2 ^ 64 := by rw [← Nat.pow_add]; congr 1; omega
  have hm : 2 ^ 64 - 2 ^ g = 2 ^ g * (2 ^ (64 - g) - 1) := by rw [Nat.mul_sub, hq, Nat.mul_one]
  have e : shl .u64 18446744073709551615 (g : Int) = ((2 ^ 64 - 2 ^ g : Nat) : Int) := by
    unfold shl
    rw [show min (g : Int).toNat (IntKind.bits .u64) = g from by simp [IntKind.bits]; omega, wrap_u64]
    have e1 : (2 : Int) ^ g = ((2 ^ g : Nat) : Int) := by rw [Int.natCast_pow]; rfl
    rw [e1]
    have h0 : 0 < 2 ^ g := Nat.two_pow_pos g
    generalize 2 ^ g = G at *
    omega
  rw [e]
  have h0 : 0 < 2 ^ g := Nat.two_pow_pos g
  rw [(bits_nat .u64 64 (by decide) (fun n h0 h => by rw [wrap_u64]; omega) D _ (by omega) (by omega)).2]
  congr 1
  rw [hm, Nat.or_comm, ← Nat.two_pow_add_eq_or_of_lt hD]
  omega

theorem j0_true (k : Nat) (a b c d : Int) : leb_S.j0 (k + 1) a b c d true = some (0, 0, some 2) := rfl

/-- What S makes of the bits that were read: the number with its sign. -/
theorem S_end {k N D : Nat} {nx : Int} (h1 : 1 ≤ N) (hD : D < 128 ^ N) (h64 : SIn (sgn D N) 64) :
    (if ((7 * N : Nat) : Int) < 64 then (if (Go.bits .and .u8 ((D / 128 ^ (N - 1) : Nat) : Int) 64) = 0 then (some (wrap64 (((D % 2 ^ 64 : Nat) : Int)), nx, (none : Option Int))) else (if 0 ≤ ((7 * N : Nat) : Int) then (some (wrap64 (Go.bits .or .u64 ((D % 2 ^ 64 : Nat) : Int) (shl .u64 18446744073709551615 ((7 * N : Nat) : Int))), nx, none)) else (none))) else (some (wrap64 (((D % 2 ^ 64 : Nat) : Int)), nx, none)))
      = some (sgn D N, nx, none) := by
  have hpos : 0 < 128 ^ (N - 1) := Nat.pow_pos (by decide)
  have hN : 128 ^ N = 128 ^ (N - 1) * 128 := by rw [← Nat.pow_succ]; congr 1; omega
  have hlast : D / 128 ^ (N - 1) < 128 := by rw [Nat.div_lt_iff_lt_mul hpos]; rw [hN] at hD; rw [Nat.mul_comm]; exact hD
  unfold SIn at h64
  have hnn : (0 : Int) ≤ ((D / 128 ^ (N - 1) : Nat) : Int) := Int.natCast_nonneg _
  have hll : ((D / 128 ^ (N - 1) : Nat) : Int) < 128 := Int.ofNat_lt.2 hlast
  by_cases hg : ((7 * N : Nat) : Int) < 64
  · rw [if_pos hg]
    have hD63 : D < 2 ^ 63 := Nat.lt_of_lt_of_le hD (by rw [pow128]; exact Nat.pow_le_pow_right (by decide) (by omega))
    have hm : D % 2 ^ 64 = D := Nat.mod_eq_of_lt (by omega)
    rw [hm]
    have h2 : ((D / 128 ^ (N - 1) : Nat) : Int) < 64 ↔ 2 * D < 128 ^ N := by
      rw [show (((D / 128 ^ (N - 1) : Nat) : Int) < 64) ↔ D / 128 ^ (N - 1) < 64 from by omega, Nat.div_lt_iff_lt_mul hpos, hN]; omega
    by_cases hs : 2 * D < 128 ^ N
    · rw [if_pos ((and64 _ hnn hll).2 (h2.2 hs))]
      unfold sgn
      rw [if_pos hs, w64 _ (by omega) (by omega)]
    · rw [if_neg (fun h => hs (h2.1 ((and64 _ hnn hll).1 h))), if_pos (by omega)]
      rw [or_high D (7 * N) (by rw [← pow128]; exact hD) (by omega)]
      unfold sgn
      rw [if_neg hs, ← pow128]
      have hN63 : 128 ^ N ≤ 2 ^ 63 := by rw [pow128]; exact Nat.pow_le_pow_right (by decide) (by omega)
      have : wrap64 (((D + (2 ^ 64 - 128 ^ N) : Nat)) : Int) = (D : Int) - ((128 ^ N : Nat) : Int) := by unfold wrap64; omega
      rw [this]
  · rw [if_neg hg]
    have hd : ∃ c : Nat, 128 ^ N = 2 ^ 64 * c := ⟨2 ^ (7 * N - 64), by rw [pow128, ← Nat.pow_add]; congr 1; omega⟩
    obtain ⟨c, hc⟩ := hd
    have : wrap64 ((D % 2 ^ 64 : Nat) : Int) = sgn D N := by
      unfold sgn at h64 ⊢
      unfold wrap64
      split at h64 <;> split <;> omega
    rw [this]

theorem S_yes (l : List Int) (hb : Bytes l) (hl : l.length ≤ 9223372036854775000) (bits at_ k : Nat) (h1 : 1 ≤ bits) (h64 : bits ≤ 64) (hk : 11 < k) (ha : at_ ≤ l.length) :
    leb_S.f k l (at_ : Int) (bits : Int) = some (match scan ((bits + 6) / 7) (l.drop at_) with
        | none => (0, 0, some 2)
        | some (D, N) => if SIn (sgn D N) bits then (sgn D N, ((at_ + N : Nat) : Int), none) else (0, 0, some 2)) := by
  unfold leb_S.f
  rw [may_yes ⟨by omega, by omega, by omega, by omega⟩]
  simp only [Option.bind_some, if_true]
  rw [raw_f l hb hl bits at_ k h64 hk ha]
  simp only [Option.bind_some]
  cases hs : scan ((bits + 6) / 7) (l.drop at_) with
  | none => simp
  | some p =>
    obtain ⟨D, N⟩ := p
    obtain ⟨g1, g2, g3, g4, g5, g6⟩ := last_byte hb hs
    simp only [if_true]
    have hpos : 0 < 128 ^ (N - 1) := Nat.pow_pos (by decide)
    have hN : 128 ^ N = 128 ^ (N - 1) * 128 := by rw [← Nat.pow_succ]; congr 1; omega
    have h264 : 2 ^ (bits - 1) ≤ 2 ^ 63 := Nat.pow_le_pow_right (by decide) (by omega)
    have hin64 : SIn (sgn D N) bits → SIn (sgn D N) 64 := by unfold SIn; omega
    rw [w64 (((at_ + N : Nat) : Int) - 1) (by omega) (by omega)]
    rw [if_pos (by omega), if_pos (by omega), g5]
    by_cases hg : 7 * N ≤ bits
    · have hr := sgn_range D N g4
      have h7 : 128 ^ N ≤ 2 * 2 ^ (bits - 1) := by
        rw [pow128, ← Nat.pow_succ']; exact Nat.pow_le_pow_right (by decide) (by omega)
      have hin : SIn (sgn D N) bits := by unfold SIn; omega
      rw [if_neg (by omega), if_pos hin]
      exact S_end (k := k) g1 g4 (hin64 hin)
    · rw [if_pos (by omega)]
      rw [w64 ((bits : Int) + 7) (by omega) (by omega), w64 ((bits : Int) + 7 - ((7 * N : Nat) : Int)) (by omega) (by omega), w64 _ (by omega) (by omega), if_pos (by omega)]
      obtain ⟨s, hs7, e⟩ : ∃ s : Nat, s ≤ 5 ∧ (bits : Int) + 7 - ((7 * N : Nat) : Int) - 1 = (s : Int) := ⟨bits + 6 - 7 * N, by omega, by omega⟩
      have hbits : bits - 1 = 7 * (N - 1) + s := by omega
      rw [e, shr_u8 _ s (by omega), show shr .u8 127 (s : Int) = ((127 / 2 ^ s : Nat) : Int) from shr_u8 127 s (by omega)]
      have e2 : 2 ^ (bits - 1) = 128 ^ (N - 1) * 2 ^ s := by rw [hbits, Nat.pow_add, pow128]
      obtain ⟨k, rfl⟩ : ∃ j, k = j + 1 := ⟨k - 1, by omega⟩
      have hs2 : 2 ^ s ≤ 32 := Nat.pow_le_pow_right (by decide) hs7 (n := 2)
      have hlt : D / 128 ^ (N - 1) < 2 ^ s ↔ D < 2 ^ (bits - 1) := by rw [Nat.div_lt_iff_lt_mul hpos, e2, Nat.mul_comm]
      have hge : 128 - 2 ^ s ≤ D / 128 ^ (N - 1) ↔ 128 ^ N ≤ D + 2 ^ (bits - 1) := by
        rw [Nat.le_div_iff_mul_le hpos, hN, e2, Nat.sub_mul, Nat.mul_comm (2 ^ s)]; omega
      have hle : 2 * 2 ^ (bits - 1) ≤ 128 ^ N := by rw [pow128, ← Nat.pow_succ']; exact Nat.pow_le_pow_right (by decide) (by omega)
      have hiff : SIn (sgn D N) bits ↔ D < 2 ^ (bits - 1) ∨ 128 ^ N ≤ D + 2 ^ (bits - 1) := by
        unfold SIn sgn
        split <;> omega
      have hz : (((D / 128 ^ (N - 1) / 2 ^ s : Nat) : Int) = 0) ↔ D < 2 ^ (bits - 1) := by
        rw [← hlt]
        have := Nat.div_eq_zero_iff_lt (Nat.two_pow_pos s) (x := D / 128 ^ (N - 1))
        omega
      have ho : (D / 128 ^ (N - 1) / 2 ^ s = 127 / 2 ^ s) ↔ 128 ^ N ≤ D + 2 ^ (bits - 1) := by
        rw [← hge]
        generalize D / 128 ^ (N - 1) = last at g6
        have hcase : s = 0 ∨ s = 1 ∨ s = 2 ∨ s = 3 ∨ s = 4 ∨ s = 5 := by omega
        rcases hcase with rfl | rfl | rfl | rfl | rfl | rfl <;> simp <;> omega
      by_cases hD : D < 2 ^ (bits - 1)
      · rw [if_pos (hz.2 hD), if_pos (hiff.2 (Or.inl hD))]
        simp only [leb_S.j0]
        rw [if_neg (by decide)]
        exact S_end (k := k) g1 g4 (hin64 (hiff.2 (Or.inl hD)))
      · rw [if_neg (fun h => hD (hz.1 h))]
        by_cases hE : 128 ^ N ≤ D + 2 ^ (bits - 1)
        · rw [if_pos (hiff.2 (Or.inr hE)), ho.2 hE]
          simp only [leb_S.j0]
          rw [if_neg (by simp)]
          exact S_end (k := k) g1 g4 (hin64 (hiff.2 (Or.inr hE)))
        · rw [if_neg (fun h => (hiff.1 h).elim hD hE)]
          have : ((((D / 128 ^ (N - 1) / 2 ^ s : Nat) : Int) != ((127 / 2 ^ s : Nat) : Int)) = true) := by
            rw [bne_iff_ne]; intro h; exact hE (ho.1 (by omega))
          rw [this, j0_true]

theorem PutU_l0 : ∀ (m n : Nat), n < 128 ^ m → 1 ≤ m → ∀ (k : Nat) (out : List Int), m < k → out.length + m < 140737488355328 → leb_PutU.l0 k (n : Int) out = some (out ++ encU n) := by
  intro m
  induction m with
  | zero => intro n _ h; omega
  | succ m ih =>
    intro n hn _ k out hk ho
    obtain ⟨k, rfl⟩ : ∃ j, k = j + 1 := ⟨k - 1, by omega⟩
    simp only [leb_PutU.l0]
    by_cases h : n < 128
    · rw [if_neg (by omega), if_pos (by omega), encU_small h, Int.emod_eq_of_lt (by omega) (by omega)]
    · rw [if_pos (by omega), if_pos (by omega), encU_great h, or128 _ (by omega) (by omega)]
      rcases Nat.eq_zero_or_pos m with rfl | hm
      · omega
      · have e : (n : Int) / 128 = ((n / 128 : Nat) : Int) := by omega
        have e2 : (n : Int) % 256 % 128 + 128 = ((n % 128 + 128 : Nat) : Int) := by omega
        rw [e, e2, ih (n / 128) (by rw [Nat.pow_succ] at hn; omega) hm k _ (by omega) (by simp; omega)]
        simp

theorem PutU_f (n k : Nat) (hn : n < 2 ^ 64) (hk : 11 < k) : leb_PutU.f k (n : Int) = some (encU n) := by
  unfold leb_PutU.f
  rw [PutU_l0 10 n (Nat.lt_of_lt_of_le hn (by decide)) (by omega) k [] (by omega) (by simp)]
  simp

theorem PutS_l0 : ∀ (m : Nat) (s : Int), -((128 ^ m : Nat) : Int) ≤ 2 * s → 2 * s < ((128 ^ m : Nat) : Int) → 1 ≤ m → ∀ (k : Nat) (out : List Int), m < k → out.length + m < 140737488355328 → leb_PutS.l0 k s out = some (out ++ encS s) := by
  intro m
  induction m with
  | zero => intro n _ _ h; omega
  | succ m ih =>
    intro s h0 h1 _ k out hk ho
    obtain ⟨k, rfl⟩ : ∃ j, k = j + 1 := ⟨k - 1, by omega⟩
    simp only [leb_PutS.l0]
    by_cases h : -64 ≤ s ∧ s < 64
    · rw [if_neg (by omega), if_neg (by omega), if_pos (by omega), encS_small h, and127 _ (by omega) (by omega)]
      rw [show s % 256 % 128 = s % 128 from by omega]
    · have hrec : leb_PutS.l0 k (s / 128) (out ++ [Go.bits .or .u8 (s % 256) 128]) = some (out ++ encS s) := by
        rw [encS_great h, or128 _ (by omega) (by omega)]
        rcases Nat.eq_zero_or_pos m with rfl | hm
        · simp at h0 h1; omega
        · have e2 : s % 256 % 128 + 128 = s % 128 + 128 := by omega
          have ev : ∃ q, 128 ^ m = 2 * q := ⟨64 * 128 ^ (m - 1), by obtain ⟨j, rfl⟩ : ∃ j, m = j + 1 := ⟨m - 1, by omega⟩; simp only [Nat.add_sub_cancel]; rw [Nat.pow_succ]; omega⟩
          obtain ⟨q, hq⟩ := ev
          rw [Nat.pow_succ] at h0 h1
          rw [e2, ih (s / 128) (by omega) (by omega) hm k _ (by omega) (by simp; omega)]
          simp
      by_cases hlt : s < -64
      · rw [if_pos hlt, if_pos (by omega), hrec]
      · rw [if_neg hlt, if_pos (by omega), if_pos (by omega), hrec]

theorem PutS_f (s : Int) (k : Nat) (h0 : -9223372036854775808 ≤ s) (h1 : s < 9223372036854775808) (hk : 11 < k) : leb_PutS.f k s = some (encS s) := by
  unfold leb_PutS.f
  rw [PutS_l0 10 s (by omega) (by omega) (by omega) k [] (by omega) (by simp)]
  simp

theorem up_f (k : Nat) (hk : 11 < k) : grommetlaw01_up.f k = some true := by
  have h : grommetlaw01_up.f 12 = some true := by decide +kernel
  exact at_rounds (g := fun k => grommetlaw01_up.f k) (grommetlaw01_up.mono) (by omega) h
end Go.Proofs.Ytmpdlkjchhajjaa.QLebStays
