/- Numbers: the program's and the document's digits agree. -/
import Derived.Test.YtjenbegobpfclaaDoorRTextBytesx4
import Derived.Test.YtjenbegobpfclaaDoorRTextBytesx5
set_option linter.unusedVariables false
set_option linter.unusedSimpArgs false
namespace Go.Proofs.YtjenbegobpfclaaDoor.Tp
open Go.RowKit Go.Proofs.YtjenbegobpfclaaDoor.Man Go.Proofs.YtjenbegobpfclaaDoorW.PrintWords Go.Proofs.YtjenbegobpfclaaDoorW.PrintLast Go.Proofs.YtjenbegobpfclaaDoorW.PrintMore Go.Proofs.YtjenbegobpfclaaDoor.RTextBytes
def sw (s p : ByteArray) : Bool := decide (p.size ≤ s.size) && ((s.extract 0 p.size).toList == p.toList)
theorem sw_size {s p : ByteArray} (h : sw s p = true) : p.size ≤ s.size := by
  unfold sw at h
  exact of_decide_eq_true (Bool.and_eq_true _ _ ▸ h).1
theorem prefix_f (s p : ByteArray) : stringslite_HasPrefix.f s p = some (sw s p) := by
  unfold stringslite_HasPrefix.f sw
  by_cases h : p.size ≤ s.size
  · rw [if_pos (by omega), if_pos (by omega), if_pos (by omega)]; simp [h]
  · rw [if_neg (by omega)]; simp [h]
theorem starts_f (s p : ByteArray) : grommetref11_starts.f s p = some (sw s p) := by
  unfold grommetref11_starts.f sw
  by_cases h : p.size ≤ s.size
  · rw [if_pos (by omega), if_pos (by omega), if_pos (by omega)]; simp [h]
  · rw [if_neg (by omega)]; simp [h]
theorem has_f (s p : ByteArray) : strings_HasPrefix.f s p = some (sw s p) := by
  unfold strings_HasPrefix.f
  rw [prefix_f]; rfl
theorem cut_f (s p : ByteArray) : strings_CutPrefix.f s p = some (if sw s p = true then (s.extract p.size s.size, true) else (s, false)) := by
  unfold strings_CutPrefix.f stringslite_CutPrefix.f
  rw [prefix_f]
  simp only [Option.bind_some]
  by_cases h : sw s p = true
  · have := sw_size h
    rw [if_pos h, if_pos (by omega), if_pos (by omega), if_pos h]; rfl
  · rw [if_neg h, if_neg h]; rfl
theorem trim_f (s p : ByteArray) : strings_TrimPrefix.f s p = some (if sw s p = true then s.extract p.size s.size else s) := by
  unfold strings_TrimPrefix.f stringslite_TrimPrefix.f
  rw [prefix_f]
  simp only [Option.bind_some]
  by_cases h : sw s p = true
  · have := sw_size h
    rw [if_pos h, if_pos (by omega), if_pos (by omega), if_pos h]; rfl
  · rw [if_neg h, if_neg h]; rfl
theorem rd10 : ∀ x : Fin 256, grommetref11_digit.f 6 (x.val : Int) 10 = some (dg (x.val : Int) 10) := by decide +kernel
theorem rd16 : ∀ x : Fin 256, grommetref11_digit.f 6 (x.val : Int) 16 = some (dg (x.val : Int) 16) := by decide +kernel
theorem rdigit (x b : Int) (hb : b = 10 ∨ b = 16) (h0 : 0 ≤ x) (h1 : x ≤ 255) (k : Nat) (hk : 6 ≤ k) : grommetref11_digit.f k x b = some (dg x b) := by
  refine at_rounds (g := fun k => grommetref11_digit.f k x b) (fun k => grommetref11_digit.mono x b k) hk ?_
  have e : ((⟨x.toNat, by omega⟩ : Fin 256).val : Int) = x := Int.toNat_of_nonneg h0
  rcases hb with rfl | rfl
  · have := rd10 ⟨x.toNat, by omega⟩
    rw [e] at this; exact this
  · have := rd16 ⟨x.toNat, by omega⟩
    rw [e] at this; exact this
/-- The digits from a place on. -/
def ds : Nat → ByteArray → Int → Int → Option (List Int)
  | 0, _, _, _ => none
  | n + 1, s, b, i =>
    if i < (s.size : Int) then
      if 0 ≤ dg (bt s i) b then (ds n s b (i + 1)).map (dg (bt s i) b :: ·)
      else if bt s i = 95 ∧ i ≠ 0 ∧ i ≠ (s.size : Int) - 1 ∧ 0 ≤ dg (bt s (i - 1)) b ∧ 0 ≤ dg (bt s (i + 1)) b then ds n s b (i + 1) else none
    else some []
def dsR (s : ByteArray) (acc : List Int) : Option (List Int) → List Int × Bool
  | some l => (acc ++ l, decide ((s.size : Int) > 0))
  | none => ([], false)
theorem ds_range (b : Int) (s : ByteArray) : ∀ n i l, ds n s b i = some l → ∀ d ∈ l, 0 ≤ d ∧ d ≤ 15
  | 0, _, _, h => by cases h
  | n + 1, i, l, h => by
    rw [ds] at h
    split at h
    · split at h
      · rename_i hd
        cases e : ds n s b (i + 1) with
        | none => rw [e] at h; cases h
        | some t =>
          rw [e] at h
          obtain rfl := Option.some.inj h
          intro d hdm
          rcases List.mem_cons.1 hdm with rfl | hdm
          · exact ⟨hd, (dg_range _ _).2⟩
          · exact ds_range b s n _ t e d hdm
      · split at h
        · exact ds_range b s n _ l h
        · cases h
    · obtain rfl := Option.some.inj h
      intro d hd; cases hd
theorem rdigits (s : ByteArray) (b : Int) (hb : b = 10 ∨ b = 16) (hs : s.size ≤ 1000000) : ∀ (n : Nat) (i : Int) (acc : List Int) (k : Nat), 0 ≤ i → i ≤ s.size → s.size < i + n → n + 7 ≤ k → (acc.length : Int) ≤ i →
    grommetref11_Digits.l0 k s b acc i = some (dsR s acc (ds n s b i))
  | 0, i, acc, k, h0, h1, h2, hk, ha => by omega
  | n + 1, i, acc, k, h0, h1, h2, hk, ha => by
    obtain ⟨k, rfl⟩ : ∃ j, k = j + 1 := ⟨k - 1, by omega⟩
    rw [grommetref11_Digits.l0, ds]
    by_cases hlt : i < (s.size : Int)
    · have w1 : wrap64 (i + 1) = i + 1 := by unfold wrap64; omega
      have w2 : wrap64 (i - 1) = i - 1 := by unfold wrap64; omega
      have w3 : wrap64 ((s.size : Int) - 1) = (s.size : Int) - 1 := by unfold wrap64; omega
      rw [if_pos hlt, if_pos h0, rdigit _ b hb (bt_range s i).1 (bt_range s i).2 k (by omega), Option.bind_some, if_pos hlt, w1, w2, w3]
      by_cases hd : 0 ≤ dg (bt s i) b
      · rw [if_pos hd, if_pos hd, if_pos (by omega), rdigits s b hb hs n (i + 1) _ k (by omega) (by omega) (by omega) (by omega) (by simp; omega)]
        cases ds n s b (i + 1) with
        | none => rfl
        | some l => simp [dsR]
      · rw [if_neg hd, if_neg hd]
        by_cases h95 : bt s i = 95
        · rw [if_pos h95]
          by_cases hz : i = 0
          · rw [if_pos hz, if_neg (fun h => h.2.1 hz)]; rfl
          · rw [if_neg hz]
            by_cases hl : i = (s.size : Int) - 1
            · rw [if_pos hl, if_neg (fun h => h.2.2.1 hl)]; rfl
            · rw [if_neg hl, if_pos (by omega), if_pos (by omega), rdigit _ b hb (bt_range s (i - 1)).1 (bt_range s (i - 1)).2 k (by omega), Option.bind_some]
              by_cases hp : dg (bt s (i - 1)) b < 0
              · rw [if_pos hp, if_neg (fun h => by have := h.2.2.2.1; omega)]; rfl
              · rw [if_neg hp, if_pos (by omega), if_pos (by omega), rdigit _ b hb (bt_range s (i + 1)).1 (bt_range s (i + 1)).2 k (by omega), Option.bind_some]
                by_cases hq : dg (bt s (i + 1)) b < 0
                · rw [if_pos hq, if_neg (fun h => by have := h.2.2.2.2; omega)]; rfl
                · rw [if_neg hq, if_pos ⟨h95, hz, hl, by omega, by omega⟩]
                  exact rdigits s b hb hs n (i + 1) acc k (by omega) (by omega) (by omega) (by omega) (by omega)
        · rw [if_neg h95, if_neg (fun h => h95 h.1)]; rfl
    · rw [if_neg hlt, if_neg hlt]
      simp [dsR]
/-- Digits' number, where it is below 2 to 64. -/
def vals : List Int → Int → Int → Option Int
  | [], _, v => some v
  | d :: l, b, v => if 18446744073709551615 < v * b + d then none else vals l b (v * b + d)
theorem vals_range (b : Int) (hb : b = 10 ∨ b = 16) : ∀ (l : List Int) (v u : Int), (∀ d ∈ l, 0 ≤ d ∧ d ≤ 15) → 0 ≤ v → v ≤ 18446744073709551615 → vals l b v = some u → 0 ≤ u ∧ u ≤ 18446744073709551615
  | [], v, u, _, h0, h1, h => by obtain rfl := Option.some.inj h; exact ⟨h0, h1⟩
  | d :: l, v, u, hl, h0, h1, h => by
    rw [vals] at h
    split at h
    · cases h
    · rename_i hv
      have := hl d (List.mem_cons_self ..)
      refine vals_range b hb l _ u (fun x hx => hl x (List.mem_cons_of_mem _ hx)) ?_ (by omega) h
      rcases hb with rfl | rfl <;> omega
def valR : Option Int → Int × Bool
  | some u => (u, true)
  | none => (0, false)
theorem rvalue (b : Int) (hb : b = 10 ∨ b = 16) (l : List Int) (hl : ∀ d ∈ l, 0 ≤ d ∧ d ≤ 15) (hn : l.length ≤ 1000000) : ∀ (n : Nat) (i : Nat) (v : Int) (k : Nat), i + n = l.length → n + 1 ≤ k → 0 ≤ v → v ≤ 18446744073709551615 →
    grommetref11_value.l0 k l v b (i : Int) = some (valR (vals (l.drop i) b v))
  | 0, i, v, k, hi, hk, h0, h1 => by
    obtain ⟨k, rfl⟩ : ∃ j, k = j + 1 := ⟨k - 1, by omega⟩
    rw [grommetref11_value.l0, if_neg (by omega), List.drop_of_length_le (by omega)]; rfl
  | n + 1, i, v, k, hi, hk, h0, h1 => by
    obtain ⟨k, rfl⟩ : ∃ j, k = j + 1 := ⟨k - 1, by omega⟩
    have hlt : i < l.length := by omega
    have hd := hl l[i] (List.getElem_mem hlt)
    have er : rd l (i : Int) = l[i] := by simp [rd, hlt]
    have eb : b ≠ 0 := by rcases hb with rfl | rfl <;> omega
    obtain ⟨d, hdd⟩ : ∃ d, l[i] = d := ⟨_, rfl⟩
    rw [grommetref11_value.l0, if_pos (by omega), if_pos (by omega), if_neg eb, er, List.drop_eq_getElem_cons hlt, vals, hdd]
    rw [hdd] at hd
    have e1 : IntKind.u64.wrap d = d := by rw [IntKind.wrap_u64]; omega
    have e2 : IntKind.u64.wrap (18446744073709551615 - d) = 18446744073709551615 - d := by rw [IntKind.wrap_u64]; omega
    have w1 : wrap64 ((i : Int) + 1) = ((i + 1 : Nat) : Int) := by unfold wrap64; omega
    rw [e1, e2, w1, Int.tdiv_eq_ediv_of_nonneg (by omega)]
    have e3 : IntKind.u64.wrap ((18446744073709551615 - d) / b) = (18446744073709551615 - d) / b := by
      rw [IntKind.wrap_u64]
      rcases hb with rfl | rfl <;> omega
    rw [e3]
    by_cases hv : 18446744073709551615 < v * b + d
    · rw [if_pos hv, if_pos (by rcases hb with rfl | rfl <;> omega)]; rfl
    · rw [if_neg hv, if_neg (by rcases hb with rfl | rfl <;> omega)]
      have e4 : IntKind.u64.wrap (IntKind.u64.wrap (v * b) + d) = v * b + d := by
        rw [IntKind.wrap_u64, IntKind.wrap_u64]
        rcases hb with rfl | rfl <;> omega
      rw [e4]
      exact rvalue b hb l hl hn n (i + 1) (v * b + d) k (by omega) (by omega) (by rcases hb with rfl | rfl <;> omega) (by omega)
def Agree (s : ByteArray) (b v : Int) (fits : Bool) (r : Int × Bool × Bool) : Option (List Int) → Prop
  | none => r.2.2 = false
  | some l => r.2.2 = decide (0 < (s.size : Int)) ∧ r.2.1 = (fits && (vals l b v).isSome) ∧ (fits = true → ∀ u, vals l b v = some u → r.1 = u)
theorem tdigits (s : ByteArray) (b : Int) (hb : b = 10 ∨ b = 16) : ∀ (n : Nat) (i v : Int) (fits : Bool), 0 ≤ i → i ≤ s.size → s.size < i + n → 0 ≤ v → v ≤ 18446744073709551615 →
    (i = 0 ∨ 0 ≤ dg (bt s (i - 1)) b ∨ (bt s (i - 1) = 95 ∧ i < s.size ∧ 0 ≤ dg (bt s i) b)) → ∃ r, dgs n s b i v fits = some r ∧ Agree s b v fits r (ds n s b i)
  | 0, i, v, fits, h0, h1, h2, hv0, hv1, hI => by omega
  | n + 1, i, v, fits, h0, h1, h2, hv0, hv1, hI => by
    rw [dgs, ds]
    by_cases hlt : i < (s.size : Int)
    · rw [if_pos hlt, if_pos hlt]
      by_cases h95 : bt s i = 95
      · have hd : dg (bt s i) b = -1 := by rw [h95, dg95]
        rw [if_neg (show ¬ 0 ≤ dg (bt s i) b by omega)]
        by_cases hT : bt s i = 95 ∧ 0 < i ∧ i + 1 < (s.size : Int) ∧ bt s (i - 1) ≠ 95
        · rw [if_pos hT]
          have hp : 0 ≤ dg (bt s (i - 1)) b := by
            rcases hI with h | h | h
            · omega
            · exact h
            · exact absurd h.1 hT.2.2.2
          by_cases hq : 0 ≤ dg (bt s (i + 1)) b
          · rw [if_pos ⟨h95, by omega, by omega, hp, hq⟩]
            exact tdigits s b hb n (i + 1) v fits (by omega) (by omega) (by omega) hv0 hv1 (.inr (.inr ⟨by rw [Int.add_sub_cancel]; exact h95, by omega, hq⟩))
          · rw [if_neg (fun h => hq h.2.2.2.2)]
            obtain ⟨m, rfl⟩ : ∃ m, n = m + 1 := ⟨n - 1, by omega⟩
            rw [dgs, if_pos (by omega), if_neg (fun h => by have := h.2.2.2; rw [Int.add_sub_cancel] at this; exact this h95), if_pos (by omega)]
            exact ⟨_, rfl, rfl⟩
        · rw [if_neg hT, if_pos (by omega), if_neg (fun h => by
            refine hT ⟨h.1, by omega, by omega, fun e => ?_⟩
            have := h.2.2.2.1
            rw [e, dg95] at this
            omega)]
          exact ⟨_, rfl, rfl⟩
      · rw [if_neg (fun h => h95 h.1)]
        by_cases hd : dg (bt s i) b < 0
        · rw [if_pos hd, if_neg (by omega), if_neg (fun h => h95 h.1)]
          exact ⟨_, rfl, rfl⟩
        · rw [if_neg hd, if_pos (by omega)]
          obtain ⟨d, hdd⟩ : ∃ d, dg (bt s i) b = d := ⟨_, rfl⟩
          have hdr := (dg_range (bt s i) b).2
          obtain ⟨r, hr, hA⟩ := tdigits s b hb n (i + 1) ((v * b + dg (bt s i) b) % 18446744073709551616) (fits && decide (v * b + dg (bt s i) b < 18446744073709551616)) (by omega) (by omega) (by omega) (by omega) (by omega) (.inr (.inl (by rw [Int.add_sub_cancel]; omega)))
          refine ⟨r, hr, ?_⟩
          rw [hdd] at hA hd hdr ⊢
          cases e : ds n s b (i + 1) with
          | none => rw [e] at hA; exact hA
          | some l =>
            rw [e] at hA
            obtain ⟨a1, a2, a3⟩ := hA
            have hvb : 0 ≤ v * b := by rcases hb with rfl | rfl <;> omega
            refine ⟨a1, ?_, ?_⟩
            · rw [a2, vals]
              by_cases ho : 18446744073709551615 < v * b + d
              · rw [if_pos ho, decide_eq_false (by omega)]; simp
              · rw [if_neg ho, decide_eq_true (by omega), Int.emod_eq_of_lt (by omega) (by omega)]; simp
            · intro hf u hu
              rw [vals] at hu
              by_cases ho : 18446744073709551615 < v * b + d
              · rw [if_pos ho] at hu; cases hu
              · rw [if_neg ho] at hu
                rw [hf, decide_eq_true (by omega : v * b + d < 18446744073709551616), Int.emod_eq_of_lt (by omega) (by omega)] at a3
                exact a3 rfl u hu
    · rw [if_neg hlt, if_neg hlt]
      refine ⟨_, rfl, rfl, ?_, ?_⟩
      · simp [vals]
      · intro _ u hu
        exact Option.some.inj hu
end Go.Proofs.YtjenbegobpfclaaDoor.Tp
