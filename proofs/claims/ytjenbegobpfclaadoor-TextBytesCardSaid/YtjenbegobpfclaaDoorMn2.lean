/- What a string's runes are beyond ASCII; strings.IndexRune of such a rune in three letters of ASCII; strings.ContainsAny by contract. -/
import Derived.Test.YtjenbegobpfclaaDoorMn1
import Derived.Laws.RangeAny
set_option linter.unusedVariables false
set_option linter.unusedSimpArgs false
namespace Go.Proofs.YtjenbegobpfclaaDoor.Man
open Go.RowKit Go.Shelf Go.Proofs.YtjenbegobpfclaaDoorW.PrintWords
theorem get_bang (s : ByteArray) (i : Nat) (h : i < s.size) : s.get! i = s[i]'h := by
  simp [ByteArray.get!, getElem!_pos, h]
  rfl
/-- decode, over the bytes from i on. -/
def dec (g : Nat → Nat) (c : Nat → Bool) : Nat × Nat :=
  if g 0 < 128 then (g 0, 1)
  else if (g 0 / 32 == 6 && c 1) = true then (if (g 0 % 32) * 64 + g 1 % 64 ≥ 128 then ((g 0 % 32) * 64 + g 1 % 64, 2) else (65533, 1))
  else if (g 0 / 16 == 14 && c 1 && c 2) = true then (if ((g 0 % 16) * 4096 + (g 1 % 64) * 64 + g 2 % 64 ≥ 2048 && Utf8.valid ((g 0 % 16) * 4096 + (g 1 % 64) * 64 + g 2 % 64 : Nat)) = true then ((g 0 % 16) * 4096 + (g 1 % 64) * 64 + g 2 % 64, 3) else (65533, 1))
  else if (g 0 / 8 == 30 && c 1 && c 2 && c 3) = true then (if ((g 0 % 8) * 262144 + (g 1 % 64) * 4096 + (g 2 % 64) * 64 + g 3 % 64 ≥ 65536 && Utf8.valid ((g 0 % 8) * 262144 + (g 1 % 64) * 4096 + (g 2 % 64) * 64 + g 3 % 64 : Nat)) = true then ((g 0 % 8) * 262144 + (g 1 % 64) * 4096 + (g 2 % 64) * 64 + g 3 % 64, 4) else (65533, 1))
  else (65533, 1)
theorem decode_dec (s : ByteArray) (i : Nat) : Utf8.decode s i = dec (fun k => (s.get! (i + k)).toNat) (fun k => decide (i + k < s.size) && (s.get! (i + k)).toNat / 64 == 2) := by
  unfold Utf8.decode dec Utf8.runeError
  simp only [Bool.decide_and, Bool.decide_eq_true]
theorem valid_spec {c : Nat} (h : Utf8.valid (c : Int) = true) : c ≤ 1114111 ∧ (c < 55296 ∨ 57343 < c) := by
  unfold Utf8.valid at h
  simp at h
  omega
theorem dec_hi (g : Nat → Nat) (c : Nat → Bool) (size i : Nat) (hg : ∀ k, g k < 256) (h0 : 128 ≤ g 0) (hi : i < size) (hc : ∀ k, c k = true → i + k < size ∧ g k / 64 = 2) :
    128 ≤ (dec g c).1 ∧ (dec g c).1 ≤ 1114111 ∧ ((dec g c).1 < 55296 ∨ 57343 < (dec g c).1) ∧ 1 ≤ (dec g c).2 ∧ (dec g c).2 ≤ 4 ∧ i + (dec g c).2 ≤ size ∧ ∀ k, k < (dec g c).2 → 128 ≤ g k := by
  have g0 := hg 0
  have bad : 128 ≤ ((65533, 1) : Nat × Nat).1 ∧ ((65533, 1) : Nat × Nat).1 ≤ 1114111 ∧ (((65533, 1) : Nat × Nat).1 < 55296 ∨ 57343 < ((65533, 1) : Nat × Nat).1) ∧ 1 ≤ ((65533, 1) : Nat × Nat).2 ∧ ((65533, 1) : Nat × Nat).2 ≤ 4 ∧ i + ((65533, 1) : Nat × Nat).2 ≤ size ∧ ∀ k, k < ((65533, 1) : Nat × Nat).2 → 128 ≤ g k := by
    refine ⟨by decide, by decide, by decide, by decide, by decide, hi, fun k hk => ?_⟩
    have : k = 0 := by simp at hk; omega
    rw [this]; exact h0
  unfold dec
  rw [if_neg (by omega)]
  split
  · rename_i h
    simp only [Bool.and_eq_true, beq_iff_eq] at h
    have k1 := hc 1 h.2
    split
    · rename_i h2
      refine ⟨h2, by simp only; omega, by simp only; omega, by simp, by simp, by simp only; omega, fun k hk => ?_⟩
      have : k = 0 ∨ k = 1 := by simp at hk; omega
      rcases this with rfl | rfl <;> omega
    · exact bad
  · split
    · rename_i h
      simp only [Bool.and_eq_true, beq_iff_eq] at h
      have k1 := hc 1 h.1.2
      have k2 := hc 2 h.2
      split
      · rename_i h2
        simp only [Bool.and_eq_true, decide_eq_true_eq] at h2
        obtain ⟨v1, v2⟩ := valid_spec h2.2
        refine ⟨by simp only; omega, v1, v2, by simp, by simp, by simp only; omega, fun k hk => ?_⟩
        have : k = 0 ∨ k = 1 ∨ k = 2 := by simp at hk; omega
        rcases this with rfl | rfl | rfl <;> omega
      · exact bad
    · split
      · rename_i h
        simp only [Bool.and_eq_true, beq_iff_eq] at h
        have k1 := hc 1 h.1.1.2
        have k2 := hc 2 h.1.2
        have k3 := hc 3 h.2
        split
        · rename_i h2
          simp only [Bool.and_eq_true, decide_eq_true_eq] at h2
          obtain ⟨v1, v2⟩ := valid_spec h2.2
          refine ⟨by simp only; omega, v1, v2, by simp, by simp, by simp only; omega, fun k hk => ?_⟩
          have : k = 0 ∨ k = 1 ∨ k = 2 ∨ k = 3 := by simp at hk; omega
          rcases this with rfl | rfl | rfl | rfl <;> omega
        · exact bad
      · exact bad
theorem decode_hi (s : ByteArray) (i : Nat) (h : i < s.size) (hi : 128 ≤ (s[i]'h).toNat) :
    128 ≤ (Utf8.decode s i).1 ∧ (Utf8.decode s i).1 ≤ 1114111 ∧ ((Utf8.decode s i).1 < 55296 ∨ 57343 < (Utf8.decode s i).1) ∧ 1 ≤ (Utf8.decode s i).2 ∧ (Utf8.decode s i).2 ≤ 4 ∧ i + (Utf8.decode s i).2 ≤ s.size ∧ ∀ k, k < (Utf8.decode s i).2 → 128 ≤ (s.get! (i + k)).toNat := by
  rw [decode_dec]
  refine dec_hi _ _ s.size i (fun k => (s.get! (i + k)).toNat_lt) ?_ h (fun k hk => ?_)
  · show 128 ≤ (s.get! (i + 0)).toNat
    rw [Nat.add_zero, get_bang s i h]
    exact hi
  · simp only [Bool.and_eq_true, decide_eq_true_eq, beq_iff_eq] at hk
    exact hk
/-- A rune beyond ASCII, written: its last byte is none of ASCII. -/
theorem encode_hi (r : Int) (h0 : 128 ≤ r) (h1 : r ≤ 1114111) (h2 : r < 55296 ∨ 57343 < r) : ∃ n : Nat, (n = 1 ∨ n = 2 ∨ n = 3) ∧ (Utf8.encode r).size = n + 1 ∧ 128 ≤ bt (Utf8.encode r) n := by
  have hv : Utf8.valid r = true := by unfold Utf8.valid; simp; omega
  unfold Utf8.encode
  simp only [hv, if_true]
  rw [if_neg (by omega)]
  split
  · refine ⟨1, .inl rfl, rfl, ?_⟩
    show 128 ≤ (((UInt8.ofNat (128 + r.toNat % 64)).toNat : Nat) : Int)
    rw [UInt8.toNat_ofNat']
    omega
  · split
    · refine ⟨2, .inr (.inl rfl), rfl, ?_⟩
      show 128 ≤ (((UInt8.ofNat (128 + r.toNat % 64)).toNat : Nat) : Int)
      rw [UInt8.toNat_ofNat']
      omega
    · refine ⟨3, .inr (.inr rfl), rfl, ?_⟩
      show 128 ≤ (((UInt8.ofNat (128 + r.toNat % 64)).toNat : Nat) : Int)
      rw [UInt8.toNat_ofNat']
      omega
end Go.Proofs.YtjenbegobpfclaaDoor.Man
