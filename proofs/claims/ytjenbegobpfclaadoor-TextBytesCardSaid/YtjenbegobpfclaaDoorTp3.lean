/- What stands behind a backslash, in plain words. -/
import Derived.Test.YtjenbegobpfclaaDoorTp1
import Derived.Test.YtjenbegobpfclaaDoorTx1
import Derived.Laws.BitsLemmas
set_option linter.unusedVariables false
set_option linter.unusedSimpArgs false
namespace Go.Proofs.YtjenbegobpfclaaDoor.Tp
open Go.RowKit Go.Proofs.YtjenbegobpfclaaDoor.Man Go.Proofs.YtjenbegobpfclaaDoorW.PrintWords Go.Proofs.YtjenbegobpfclaaDoorW.PrintLast Go.Proofs.YtjenbegobpfclaaDoorW.PrintMore Go.Proofs.YtjenbegobpfclaaDoor.RTextBytes Go.Proofs.YtjenbegobpfclaaDoor.Tx
def isChar (c : Int) : Bool := decide (0 ≤ c) && decide (c ≤ 1114111) && (decide (c < 55296) || decide (57343 < c))
def width (c : Int) : Int := if c < 128 then 1 else if c < 2048 then 2 else if c < 65536 then 3 else 4
theorem w64 (n : Int) (h0 : -9223372036854775808 ≤ n) (h1 : n < 9223372036854775808) : wrap64 n = n := by unfold wrap64; omega
theorem char_f (c : Int) : name_char.f c = some (isChar c) := by
  unfold name_char.f isChar
  by_cases h1 : c ≥ 0
  · by_cases h2 : c ≤ 1114111
    · by_cases h3 : c < 55296
      · simp [h1, h2, h3]
      · simp [h1, h2, h3]
    · simp [h1, h2]
  · simp [h1]
theorem width_f (c : Int) : name_width.f c = some (width c) := by
  unfold name_width.f width
  split
  · rfl
  · split
    · rfl
    · split <;> rfl
/-- A character's bytes. -/
def enc (c : Int) : List Int := if c < 128 then [c] else if c < 2048 then [192 + c / 64, 128 + c % 64] else if c < 65536 then [224 + c / 4096, 128 + c / 64 % 64, 128 + c % 64] else [240 + c / 262144, 128 + c / 4096 % 64, 128 + c / 64 % 64, 128 + c % 64]
theorem char_range {c : Int} (h : isChar c = true) : 0 ≤ c ∧ c ≤ 1114111 ∧ (c < 55296 ∨ 57343 < c) := by
  unfold isChar at h
  simp at h
  exact ⟨h.1.1, h.1.2, h.2⟩
theorem and63i (x : Int) (h0 : 0 ≤ x) (h1 : x < 9223372036854775808) : Go.bits .and .i64 x 63 = x % 64 := by
  have h := bits_mask .i64 63 (by decide) (fun n h0 h => by rw [IntKind.wrap_i64]; omega) 6 (by decide) x h0 (by simpa using h1)
  simpa using h
theorem or128 (y : Int) (h0 : 0 ≤ y) (h1 : y < 64) : Go.bits .or .u8 128 y = 128 + y := by
  obtain ⟨a, rfl⟩ := Int.eq_ofNat_of_zero_le h0
  have : ∀ a : Fin 64, Go.bits .or .u8 128 ((a.val : Nat) : Int) = 128 + ((a.val : Nat) : Int) := by decide +kernel
  exact this ⟨a, by omega⟩
theorem head2 (y : Int) (h0 : 0 ≤ y) (h1 : y < 32) : Go.bits .or .u8 (Go.bits .xor .u8 (IntKind.u8.max) (shr .u8 255 2)) y = 192 + y := by
  obtain ⟨a, rfl⟩ := Int.eq_ofNat_of_zero_le h0
  have : ∀ a : Fin 32, Go.bits .or .u8 (Go.bits .xor .u8 (IntKind.u8.max) (shr .u8 255 2)) ((a.val : Nat) : Int) = 192 + ((a.val : Nat) : Int) := by decide +kernel
  exact this ⟨a, by omega⟩
theorem head3 (y : Int) (h0 : 0 ≤ y) (h1 : y < 16) : Go.bits .or .u8 (Go.bits .xor .u8 (IntKind.u8.max) (shr .u8 255 3)) y = 224 + y := by
  obtain ⟨a, rfl⟩ := Int.eq_ofNat_of_zero_le h0
  have : ∀ a : Fin 16, Go.bits .or .u8 (Go.bits .xor .u8 (IntKind.u8.max) (shr .u8 255 3)) ((a.val : Nat) : Int) = 224 + ((a.val : Nat) : Int) := by decide +kernel
  exact this ⟨a, by omega⟩
theorem head4 (y : Int) (h0 : 0 ≤ y) (h1 : y < 8) : Go.bits .or .u8 (Go.bits .xor .u8 (IntKind.u8.max) (shr .u8 255 4)) y = 240 + y := by
  obtain ⟨a, rfl⟩ := Int.eq_ofNat_of_zero_le h0
  have : ∀ a : Fin 8, Go.bits .or .u8 (Go.bits .xor .u8 (IntKind.u8.max) (shr .u8 255 4)) ((a.val : Nat) : Int) = 240 + ((a.val : Nat) : Int) := by decide +kernel
  exact this ⟨a, by omega⟩
theorem pchar_f (c : Int) : name_char.f c = some (isChar c) := char_f c
theorem pwidth_f (c : Int) : name_width.f c = some (width c) := width_f c
theorem step (k : Nat) (x n : Int) (L : List Int) (i : Nat) (hi : 0 < i) (hL : i < L.length) (h3 : i < 5) (h0 : 0 ≤ x) (h1 : x < 9223372036854775808) :
    name_Put.l0 (k + 1) x n L (i : Int) = name_Put.l0 k (x / 64) n (L.set i (128 + x % 64)) ((i - 1 : Nat) : Int) := by
  rw [name_Put.l0, if_pos (by omega), if_pos (by omega), if_pos (by omega), and63i x h0 h1, Int.emod_eq_of_lt (show 0 ≤ x % 64 by omega) (show x % 64 < 256 by omega), or128 _ (by omega) (by omega), w64 _ (by omega) (by omega)]
  congr 1
  omega
theorem put_no (k : Nat) (c : Int) (h : isChar c = false) : name_Put.f k c = some ([], some 1) := by
  unfold name_Put.f
  rw [pchar_f, h]
  rfl
theorem put_f (c : Int) (h : isChar c = true) : name_Put.f 4 c = some (enc c, none) := by
  obtain ⟨c0, c1, c2⟩ := char_range h
  unfold name_Put.f
  rw [pchar_f, h, pwidth_f]
  simp only [Option.bind_some, if_true]
  unfold width enc
  by_cases h1 : c < 128
  · rw [if_pos h1, if_pos h1, if_pos rfl, Int.emod_eq_of_lt c0 (by omega)]
  · rw [if_neg h1, if_neg h1]
    by_cases h2 : c < 2048
    · rw [if_pos h2, if_pos h2, if_neg (by decide), if_pos (by decide), if_pos (by decide), show wrap64 (2 - 1) = ((1 : Nat) : Int) from by unfold wrap64; omega, step 3 c 2 _ 1 (by decide) (by simp) (by decide) c0 (by omega), name_Put.l0, if_neg (by decide), if_pos (by decide), if_pos (by simp)]
      rw [Int.emod_eq_of_lt (show 0 ≤ c / 64 by omega) (by omega), head2 _ (by omega) (by omega)]
      rfl
    · rw [if_neg h2, if_neg h2]
      by_cases h3 : c < 65536
      · rw [if_pos h3, if_pos h3, if_neg (by decide), if_pos (by decide), if_pos (by decide), show wrap64 (3 - 1) = ((2 : Nat) : Int) from by unfold wrap64; omega, step 3 c 3 _ 2 (by decide) (by simp) (by decide) c0 (by omega), step 2 (c / 64) 3 _ 1 (by decide) (by simp) (by decide) (by omega) (by omega), name_Put.l0, if_neg (by decide), if_pos (by decide), if_pos (by simp)]
        rw [show c / 64 / 64 = c / 4096 by omega, Int.emod_eq_of_lt (show 0 ≤ c / 4096 by omega) (by omega), head3 _ (by omega) (by omega)]
        rfl
      · rw [if_neg h3, if_neg h3, if_neg (by decide), if_pos (by decide), if_pos (by decide), show wrap64 (4 - 1) = ((3 : Nat) : Int) from by unfold wrap64; omega, step 3 c 4 _ 3 (by decide) (by simp) (by decide) c0 (by omega), step 2 (c / 64) 4 _ 2 (by decide) (by simp) (by decide) (by omega) (by omega), step 1 (c / 64 / 64) 4 _ 1 (by decide) (by simp) (by decide) (by omega) (by omega), name_Put.l0, if_neg (by decide), if_pos (by decide), if_pos (by simp)]
        rw [show c / 64 / 64 / 64 = c / 262144 by omega, show c / 64 / 64 = c / 4096 by omega, Int.emod_eq_of_lt (show 0 ≤ c / 262144 by omega) (by omega), head4 _ (by omega) (by omega)]
        rfl

theorem enc_len (c : Int) : (enc c).length ≤ 4 := by
  unfold enc
  repeat' split
  all_goals simp
abbrev bu : ByteArray := ⟨#[117, 123]⟩
/-- The number that hexadecimal digits are. -/
def num16 (m : ByteArray) : Option (Option Int) := if m.size = 0 then none else (ds (m.size + 1) m 16 0).map fun l => vals l 16 0
def uniV (e : Int) : Option (Option Int) → List Int × Int
  | some (some v) => if isChar v = true then (enc v, e + 1) else ([], 0)
  | _ => ([], 0)
/-- A character that is told by its number. -/
def uni (t : ByteArray) : List Int × Int :=
  if sw t bu = true then
    (if Lib.indexByte t.data.toList 125 < 0 then ([], 0) else uniV (Lib.indexByte t.data.toList 125) (num16 (t.extract 2 (Lib.indexByte t.data.toList 125).toNat)))
  else ([], 0)
/-- What stands behind a backslash. -/
def esc (t : ByteArray) : List Int × Int :=
  if t.size = 0 then ([], 0) else
  if bt t 0 = 116 then ([9], 1) else if bt t 0 = 110 then ([10], 1) else if bt t 0 = 114 then ([13], 1) else
  if bt t 0 = 34 ∨ bt t 0 = 39 ∨ bt t 0 = 92 then ([bt t 0], 1) else
  if bt t 0 = 117 then uni t else
  if t.size > 1 ∧ dg (bt t 0) 16 ≥ 0 ∧ dg (bt t 1) 16 ≥ 0 then ([dg (bt t 0) 16 * 16 + dg (bt t 1) 16], 2) else ([], 0)
theorem num16_range (m : ByteArray) (v : Int) (h : num16 m = some (some v)) : 0 ≤ v ∧ v ≤ 18446744073709551615 := by
  unfold num16 at h
  split at h
  · cases h
  · cases e : ds (m.size + 1) m 16 0 with
    | none => rw [e] at h; cases h
    | some l =>
      rw [e] at h
      have h' : vals l 16 0 = some v := Option.some.inj h
      exact vals_range _ (.inr rfl) l 0 v (ds_range _ _ _ _ _ e) (by omega) (by omega) h'
theorem digits16 (m : ByteArray) (hm : m.size ≤ 1000000) : ∃ r, text_digits.f m 16 = some r ∧
    match num16 m with
    | none => r.2.2 = false
    | some none => r.2.2 = true ∧ r.2.1 = false
    | some (some v) => r.2.2 = true ∧ r.2.1 = true ∧ r.1 = v := by
  obtain ⟨r, hr, hA⟩ := tdigits m 16 (.inr rfl) (m.size + 1) 0 0 true (by omega) (by omega) (by omega) (by omega) (by omega) (.inl rfl)
  refine ⟨r, by unfold text_digits.f; rw [if_pos ⟨.inr rfl, hm⟩]; exact hr, ?_⟩
  unfold num16
  cases e : ds (m.size + 1) m 16 0 with
  | none =>
    rw [e] at hA
    have hA' : r.2.2 = false := hA
    split
    · rename_i h; exact hA'
    · rename_i h; split at h <;> cases h
    · rename_i h; split at h <;> cases h
  | some l =>
    rw [e] at hA
    obtain ⟨a1, a2, a3⟩ := hA
    by_cases hz : m.size = 0
    · rw [if_pos hz]
      show r.2.2 = false
      rw [a1]; exact decide_eq_false (by omega)
    · rw [if_neg hz, Option.map_some]
      have b1 : r.2.2 = true := by rw [a1]; exact decide_eq_true (by omega)
      cases ev : vals l 16 0 with
      | none =>
        rw [ev] at a2
        exact ⟨b1, by rw [a2]; rfl⟩
      | some v =>
        rw [ev] at a2
        exact ⟨b1, by rw [a2]; rfl, a3 rfl v ev⟩
theorem bt_ne {t : ByteArray} {i : Nat} {c : UInt8} (h : t.data.toList[i]? ≠ some c) (hi : i < t.size) : bt t (i : Int) ≠ (c.toNat : Int) := by
  have hl : i < t.data.toList.length := by rw [← Lib.size_eq]; exact hi
  intro e
  rw [bt_list t i hl] at e
  apply h
  rw [List.getElem?_eq_getElem hl]
  congr 1
  exact UInt8.toNat_inj.1 (by omega)
theorem sw_two (t : ByteArray) (h : sw t bu = true) : 2 ≤ t.size ∧ t.data.toList[0]? = some 117 ∧ t.data.toList[1]? = some 123 := by
  have hz := sw_size h
  have e1 : bu.size = 2 := rfl
  rw [e1] at hz
  refine ⟨hz, ?_⟩
  unfold sw at h
  have h3 := beq_iff_eq.1 (Bool.and_eq_true _ _ ▸ h).2
  rw [Lib.toList_data, Lib.toList_data, e1, ByteArray.data_extract, Array.toList_extract] at h3
  have h4 : t.data.toList.take 2 = [117, 123] := by
    simpa [List.extract] using h3
  constructor
  · have := congrArg (·[0]?) h4
    simpa using this
  · have := congrArg (·[1]?) h4
    simpa using this
theorem end_ge (t : ByteArray) (h : sw t bu = true) (h2 : ¬ Lib.indexByte t.data.toList 125 < 0) : 2 ≤ Lib.indexByte t.data.toList 125 ∧ Lib.indexByte t.data.toList 125 < t.size := by
  obtain ⟨_, h0, h1⟩ := sw_two t h
  obtain ⟨o, ho⟩ := Int.eq_ofNat_of_zero_le (show 0 ≤ Lib.indexByte t.data.toList 125 by omega)
  have hs := Lib.indexByte_some ho
  have hlt : o < t.data.toList.length := (List.getElem?_eq_some_iff.1 hs.1).1
  rw [ho]
  refine ⟨?_, by rw [Lib.size_eq]; exact_mod_cast hlt⟩
  rcases o with _ | _ | o
  · have := h0.symm.trans hs.1; cases this
  · have := h1.symm.trans hs.1; cases this
  · omega
theorem uni_f (t : ByteArray) (ht : t.size ≤ 1000000) (k : Nat) : text_unicode.f (k + 8) t = some (uni t) := by
  unfold text_unicode.f strings_IndexByte.f uni
  rw [Option.bind_some, has_f, Option.bind_some]
  have e125 : (125 : Int).toNat.toUInt8 = 125 := rfl
  rw [e125]
  by_cases hs : sw t bu = true
  · rw [if_pos hs, if_pos hs]
    by_cases he : Lib.indexByte t.data.toList 125 < 0
    · rw [if_pos he, decide_eq_true he, text_unicode.j0, if_pos rfl]
    · rw [if_neg he, decide_eq_false he, text_unicode.j0, if_neg Bool.false_ne_true]
      obtain ⟨g1, g2⟩ := end_ge t hs he
      obtain ⟨e, hee⟩ : ∃ e, Lib.indexByte t.data.toList 125 = e := ⟨_, rfl⟩
      rw [hee] at g1 g2 ⊢
      rw [if_pos g1, if_pos (by omega)]
      have hms : (t.extract 2 e.toNat).size ≤ 1000000 := by rw [ByteArray.size_extract]; omega
      obtain ⟨r, hr, hA⟩ := digits16 _ hms
      rw [hr, Option.bind_some]
      have hrange := num16_range (t.extract 2 e.toNat)
      cases en : num16 (t.extract 2 e.toNat) with
      | none =>
        rw [en] at hA
        have b1 : r.2.2 = false := hA
        rw [if_neg (by rw [b1]; exact Bool.false_ne_true), text_unicode.j1, if_pos rfl]; rfl
      | some o =>
        cases o with
        | none =>
          rw [en] at hA
          obtain ⟨b1, b2⟩ := hA
          rw [if_pos b1, if_neg (by rw [b2]; exact Bool.false_ne_true), text_unicode.j1, if_pos rfl]; rfl
        | some v =>
          have hv := hrange v en
          rw [en] at hA
          obtain ⟨b1, b2, b3⟩ := hA
          rw [if_pos b1, if_pos b2, b3]
          show _ = some (if isChar v = true then (enc v, e + 1) else ([], 0))
          by_cases hbig : v > 2097152
          · have : ¬ isChar v = true := fun h => by have := (char_range h).2.1; omega
            rw [decide_eq_true hbig, text_unicode.j1, if_pos rfl, if_neg this]
          · rw [decide_eq_false hbig, text_unicode.j1, if_neg Bool.false_ne_true, w64 v (by omega) (by omega), w64 (e + 1) (by omega) (by omega)]
            by_cases hc : isChar v = true
            · have hp : name_Put.f (k + 6) v = some (enc v, none) := at_rounds (g := fun k => name_Put.f k v) (fun k => name_Put.mono v k) (by omega) (put_f v hc)
              rw [hp, Option.bind_some, if_pos (show (enc v, (none : Option Int)).2.isNone = true from rfl), if_pos hc]
            · rw [put_no _ v (eq_false_of_ne_true hc), Option.bind_some, if_neg (by simp), if_neg hc]
  · rw [if_neg hs, if_neg hs, text_unicode.j0, if_pos rfl]
theorem or_all : ∀ x : Fin 256, Go.bits .or .i64 (wrap64 (((x.val : Int) / 16) * 16)) ((x.val : Int) % 16) % 256 = (x.val : Int) := by decide +kernel
theorem or_of (a b : Int) (ha : 0 ≤ a) (ha1 : a ≤ 15) (hb : 0 ≤ b) (hb1 : b ≤ 15) : Go.bits .or .i64 (wrap64 (a * 16)) b % 256 = a * 16 + b := by
  have h := or_all ⟨(a * 16 + b).toNat, by omega⟩
  have e : (((a * 16 + b).toNat : Nat) : Int) = a * 16 + b := Int.toNat_of_nonneg (by omega)
  simp only [e] at h
  rw [show (a * 16 + b) / 16 = a by omega, show (a * 16 + b) % 16 = b by omega] at h
  exact h
theorem dig_f (t : ByteArray) (i : Int) : text_digit.f (bt t i) 16 = some (dg (bt t i) 16) := by
  unfold text_digit.f
  have := bt_range t i
  rw [if_pos ⟨⟨by omega, by omega⟩, .inr rfl⟩]
theorem esc_f (t : ByteArray) (ht : t.size ≤ 1000000) : text_escape.f 12 t = some (esc t) := by
  unfold text_escape.f esc
  by_cases h0 : t.toList = []
  · rw [if_pos h0, if_pos (size_nil h0)]
  · have hz := nil_size h0
    rw [if_neg h0, if_pos (show 0 < (t.size : Int) by omega), if_neg (show ¬ t.size = 0 by omega)]
    by_cases h1 : bt t 0 = 116
    · rw [if_pos h1, if_pos h1]
    · rw [if_neg h1, if_neg h1]
      by_cases h2 : bt t 0 = 110
      · rw [if_pos h2, if_pos h2]
      · rw [if_neg h2, if_neg h2]
        by_cases h3 : bt t 0 = 114
        · rw [if_pos h3, if_pos h3]
        · rw [if_neg h3, if_neg h3]
          by_cases h4 : bt t 0 = 34
          · rw [if_pos h4, if_pos (.inl h4), beq_iff_eq.2 h4, text_escape.j0, if_pos rfl, if_pos (by omega)]
          · rw [if_neg h4]
            by_cases h5 : bt t 0 = 39
            · rw [if_pos h5, if_pos (.inr (.inl h5)), beq_iff_eq.2 h5, text_escape.j0, if_pos rfl, if_pos (by omega)]
            · rw [if_neg h5]
              by_cases h6 : bt t 0 = 92
              · rw [if_pos (.inr (.inr h6)), beq_iff_eq.2 h6, text_escape.j0, if_pos rfl, if_pos (by omega)]
              · rw [if_neg (by rintro (h | h | h); exact h4 h; exact h5 h; exact h6 h), beq_eq_false_iff_ne.2 h6, text_escape.j0, if_neg Bool.false_ne_true]
                by_cases h7 : bt t 0 = 117
                · rw [if_pos h7, if_pos h7, uni_f t ht 3]; rfl
                · rw [if_neg h7, if_neg h7, dig_f]
                  have r0 := dg_range (bt t 0) 16
                  have r1 := dg_range (bt t 1) 16
                  by_cases h8 : t.size > 1
                  · rw [if_pos (by omega), if_pos (by omega), Option.bind_some]
                    by_cases h9 : dg (bt t 0) 16 ≥ 0
                    · rw [if_pos h9, if_pos (by omega), dig_f, Option.bind_some, text_escape.j1]
                      by_cases h10 : dg (bt t 1) 16 ≥ 0
                      · rw [if_pos (decide_eq_true h10), if_pos (by omega), dig_f, Option.bind_some, if_pos (by omega), dig_f, Option.bind_some, if_pos ⟨h8, h9, h10⟩, or_of _ _ h9 r0.2 h10 r1.2]
                      · rw [if_neg (by rw [decide_eq_false h10]; exact Bool.false_ne_true), if_neg (fun h => h10 h.2.2)]
                    · rw [if_neg h9, text_escape.j1, if_neg Bool.false_ne_true, if_neg (fun h => h9 h.2.1)]
                  · rw [if_neg (by omega), text_escape.j1, if_neg Bool.false_ne_true, if_neg (fun h => h8 h.1)]
theorem esc_bounds (t : ByteArray) : 0 ≤ (esc t).2 ∧ (esc t).2 ≤ t.size ∧ (esc t).1.length ≤ 4 := by
  unfold esc
  by_cases h0 : t.size = 0
  · rw [if_pos h0]; simp
  · rw [if_neg h0]
    split
    · simp; omega
    · split
      · simp; omega
      · split
        · simp; omega
        · split
          · simp; omega
          · split
            · unfold uni
              split
              · rename_i hs
                split
                · simp
                · rename_i he
                  have := end_ge t hs he
                  cases num16 (t.extract 2 (Lib.indexByte t.data.toList 125).toNat) with
                  | none => simp [uniV]
                  | some o =>
                    cases o with
                    | none => simp [uniV]
                    | some v =>
                      simp only [uniV]
                      split
                      · have := enc_len v
                        refine ⟨by simp only; omega, by simp only; omega, this⟩
                      · simp
              · simp
            · split
              · rename_i h; simp; omega
              · simp
end Go.Proofs.YtjenbegobpfclaaDoor.Tp
