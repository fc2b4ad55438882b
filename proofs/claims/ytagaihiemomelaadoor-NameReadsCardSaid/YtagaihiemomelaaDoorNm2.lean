/- Plain facts on UTF-8: what name.Put and the document's Put write ('enc'). -/
import Derived.Test.YtagaihiemomelaaDoorRNamePutsx2
import Derived.Laws.BitsLemmas
set_option linter.unusedVariables false
set_option linter.unusedSimpArgs false
namespace Go.Proofs.YtagaihiemomelaaDoor.Nm
open Go.RowKit Go.Proofs.YtagaihiemomelaaDoorW.PrintWords Go.Proofs.YtagaihiemomelaaDoorW.PrintMore Go.Proofs.YtagaihiemomelaaDoorW.PrintLast
open Go.Proofs.YtagaihiemomelaaDoor.RNamePuts (name_char.f name_width.f name_Put.f name_Put.l0 grommetref02_Char.f grommetref02_Put.f)
/-- A character's bytes. -/
def enc (c : Int) : List Int := if c < 128 then [c] else if c < 2048 then [192 + c / 64, 128 + c % 64] else if c < 65536 then [224 + c / 4096, 128 + c / 64 % 64, 128 + c % 64] else [240 + c / 262144, 128 + c / 4096 % 64, 128 + c / 64 % 64, 128 + c % 64]
theorem char_range {c : Int} (h : isChar c = true) : 0 ≤ c ∧ c ≤ 1114111 ∧ (c < 55296 ∨ 57343 < c) := by
  unfold isChar at h
  simp at h
  exact ⟨h.1.1, h.1.2, h.2⟩
theorem and63i (x : Int) (h0 : 0 ≤ x) (h1 : x < 9223372036854775808) : Go.bits .and .i64 x 63 = x % 64 := by
  have h := bits_mask .i64 63 (by decide) (fun n h0 h => by rw [IntKind.wrap_i64]; omega) 6 (by decide) x h0 (by simpa using h1)
  simpa using h
theorem or128 (y : Int) (h0 : 0 ≤ y) (h1 : y < 64) : Go.bits .or .u8 128 y = 128 + y := by
  obtain ⟨a, rfl⟩ := Int.eq_ofNat_of_zero_le h0
  have : ∀ a : Fin 64, Go.bits .or .u8 128 ((a.val : Nat) : Int) = 128 + ((a.val : Nat) : Int) := by decide +kernel
  exact this ⟨a, by omega⟩
theorem head2 (y : Int) (h0 : 0 ≤ y) (h1 : y < 32) : Go.bits .or .u8 (Go.bits .xor .u8 (IntKind.u8.max) (shr .u8 255 2)) y = 192 + y := by
  obtain ⟨a, rfl⟩ := Int.eq_ofNat_of_zero_le h0
  have : ∀ a : Fin 32, Go.bits .or .u8 (Go.bits .xor .u8 (IntKind.u8.max) (shr .u8 255 2)) ((a.val : Nat) : Int) = 192 + ((a.val : Nat) : Int) := by decide +kernel
  exact this ⟨a, by omega⟩
theorem head3 (y : Int) (h0 : 0 ≤ y) (h1 : y < 16) : Go.bits .or .u8 (Go.bits .xor .u8 (IntKind.u8.max) (shr .u8 255 3)) y = 224 + y := by
  obtain ⟨a, rfl⟩ := Int.eq_ofNat_of_zero_le h0
  have : ∀ a : Fin 16, Go.bits .or .u8 (Go.bits .xor .u8 (IntKind.u8.max) (shr .u8 255 3)) ((a.val : Nat) : Int) = 224 + ((a.val : Nat) : Int) := by decide +kernel
  exact this ⟨a, by omega⟩
theorem head4 (y : Int) (h0 : 0 ≤ y) (h1 : y < 8) : Go.bits .or .u8 (Go.bits .xor .u8 (IntKind.u8.max) (shr .u8 255 4)) y = 240 + y := by
  obtain ⟨a, rfl⟩ := Int.eq_ofNat_of_zero_le h0
  have : ∀ a : Fin 8, Go.bits .or .u8 (Go.bits .xor .u8 (IntKind.u8.max) (shr .u8 255 4)) ((a.val : Nat) : Int) = 240 + ((a.val : Nat) : Int) := by decide +kernel
  exact this ⟨a, by omega⟩
theorem pchar_f (c : Int) : name_char.f c = some (isChar c) := char_f c
theorem pwidth_f (c : Int) : name_width.f c = some (width c) := width_f c
theorem rchar_f (c : Int) : grommetref02_Char.f c = some (isChar c) := char_f c
theorem step (k : Nat) (x n : Int) (L : List Int) (i : Nat) (hi : 0 < i) (hL : i < L.length) (h3 : i < 5) (h0 : 0 ≤ x) (h1 : x < 9223372036854775808) :
    name_Put.l0 (k + 1) x n L (i : Int) = name_Put.l0 k (x / 64) n (L.set i (128 + x % 64)) ((i - 1 : Nat) : Int) := by
  rw [name_Put.l0, if_pos (by omega), if_pos (by omega), if_pos (by omega), and63i x h0 h1, Int.emod_eq_of_lt (show 0 ≤ x % 64 by omega) (show x % 64 < 256 by omega), or128 _ (by omega) (by omega), w64 _ (by omega) (by omega)]
  congr 1
  omega
theorem put_no (k : Nat) (c : Int) (h : isChar c = false) : name_Put.f k c = some ([], some 1) := by
  unfold name_Put.f
  rw [pchar_f, h]
  rfl
theorem put_f (c : Int) (h : isChar c = true) : name_Put.f 4 c = some (enc c, none) := by
  obtain ⟨c0, c1, c2⟩ := char_range h
  unfold name_Put.f
  rw [pchar_f, h, pwidth_f]
  simp only [Option.bind_some, if_true]
  unfold width enc
  by_cases h1 : c < 128
  · rw [if_pos h1, if_pos h1, if_pos rfl, Int.emod_eq_of_lt c0 (by omega)]
  · rw [if_neg h1, if_neg h1]
    by_cases h2 : c < 2048
    · rw [if_pos h2, if_pos h2, if_neg (by decide), if_pos (by decide), if_pos (by decide), show wrap64 (2 - 1) = ((1 : Nat) : Int) from by unfold wrap64; omega, step 3 c 2 _ 1 (by decide) (by simp) (by decide) c0 (by omega), name_Put.l0, if_neg (by decide), if_pos (by decide), if_pos (by simp)]
      rw [Int.emod_eq_of_lt (show 0 ≤ c / 64 by omega) (by omega), head2 _ (by omega) (by omega)]
      rfl
    · rw [if_neg h2, if_neg h2]
      by_cases h3 : c < 65536
      · rw [if_pos h3, if_pos h3, if_neg (by decide), if_pos (by decide), if_pos (by decide), show wrap64 (3 - 1) = ((2 : Nat) : Int) from by unfold wrap64; omega, step 3 c 3 _ 2 (by decide) (by simp) (by decide) c0 (by omega), step 2 (c / 64) 3 _ 1 (by decide) (by simp) (by decide) (by omega) (by omega), name_Put.l0, if_neg (by decide), if_pos (by decide), if_pos (by simp)]
        rw [show c / 64 / 64 = c / 4096 by omega, Int.emod_eq_of_lt (show 0 ≤ c / 4096 by omega) (by omega), head3 _ (by omega) (by omega)]
        rfl
      · rw [if_neg h3, if_neg h3, if_neg (by decide), if_pos (by decide), if_pos (by decide), show wrap64 (4 - 1) = ((3 : Nat) : Int) from by unfold wrap64; omega, step 3 c 4 _ 3 (by decide) (by simp) (by decide) c0 (by omega), step 2 (c / 64) 4 _ 2 (by decide) (by simp) (by decide) (by omega) (by omega), step 1 (c / 64 / 64) 4 _ 1 (by decide) (by simp) (by decide) (by omega) (by omega), name_Put.l0, if_neg (by decide), if_pos (by decide), if_pos (by simp)]
        rw [show c / 64 / 64 / 64 = c / 262144 by omega, show c / 64 / 64 = c / 4096 by omega, Int.emod_eq_of_lt (show 0 ≤ c / 262144 by omega) (by omega), head4 _ (by omega) (by omega)]
        rfl
theorem rput_f (c : Int) (h : isChar c = true) : grommetref02_Put.f c = some (enc c) := by
  obtain ⟨c0, c1, c2⟩ := char_range h
  unfold grommetref02_Put.f enc
  simp only [Int.tdiv_eq_ediv_of_nonneg c0, Int.tmod_eq_emod_of_nonneg c0]
  have a1 : wrap64 (c / 64) = c / 64 := w64 _ (by omega) (by omega)
  have a2 : wrap64 (c / 4096) = c / 4096 := w64 _ (by omega) (by omega)
  have a3 : wrap64 (c / 262144) = c / 262144 := w64 _ (by omega) (by omega)
  rw [a1, a2, a3]
  rw [Int.tmod_eq_emod_of_nonneg (show 0 ≤ c / 64 by omega), Int.tmod_eq_emod_of_nonneg (show 0 ≤ c / 4096 by omega)]
  have b (x : Int) (h0 : 0 ≤ x) (h1 : x < 256) : wrap64 x % 256 = x := by rw [w64 _ (by omega) (by omega)]; omega
  by_cases h1 : c < 128
  · rw [if_pos h1, if_pos h1, Int.emod_eq_of_lt c0 (by omega)]
  · rw [if_neg h1, if_neg h1]
    by_cases h2 : c < 2048
    · rw [if_pos h2, if_pos h2, b _ (by omega) (by omega), b _ (by omega) (by omega)]
    · rw [if_neg h2, if_neg h2]
      by_cases h3 : c < 65536
      · rw [if_pos h3, if_pos h3, b _ (by omega) (by omega), b _ (by omega) (by omega), b _ (by omega) (by omega)]
      · rw [if_neg h3, if_neg h3, b _ (by omega) (by omega), b _ (by omega) (by omega), b _ (by omega) (by omega), b _ (by omega) (by omega)]
end Go.Proofs.YtagaihiemomelaaDoor.Nm
