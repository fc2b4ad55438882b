/- Numbers: the document's Int answers the same; signs; both sizes. -/
import Derived.Test.YtjenbegobpfclaaTp1
set_option linter.unusedVariables false
set_option linter.unusedSimpArgs false
namespace Go.Proofs.Ytjenbegobpfclaa.Tp
open Go.RowKit Go.Proofs.Ytjenbegobpfclaa.Man Go.Proofs.YtjenbegobpfclaaW.PrintWords Go.Proofs.YtjenbegobpfclaaW.PrintLast Go.Proofs.YtjenbegobpfclaaW.PrintMore Go.Proofs.Ytjenbegobpfclaa.RTextAll
def told (r : Int × Option Int) : Int × Int := (r.1, codeOf r.2)
theorem rj7_f (n : Int) (hn : n = 32 ∨ n = 64) (v : Int) (h0 : 0 ≤ v) (h1 : v ≤ 18446744073709551615) (minus big : Bool) (k : Nat) (hb : big = decide (v > most n ∨ (minus = true ∧ v > half n))) :
    grommetref11_Int.j7 (k + 1) minus v (most n) big = some (told (numR n minus (some (some v)))) := by
  show _ = some (told (if v > most n ∨ (minus = true ∧ v > half n) then (0, some 7) else if minus = true then (if v > 0 then most n - v + 1 else 0, none) else (v, none)))
  rw [grommetref11_Int.j7, hb]
  by_cases hc : v > most n ∨ (minus = true ∧ v > half n)
  · rw [if_pos (decide_eq_true hc), if_pos hc]; rfl
  · rw [if_neg (by rw [decide_eq_false hc]; exact Bool.false_ne_true), if_neg hc]
    by_cases hm : minus = true
    · rw [if_pos hm, if_pos hm]
      by_cases hv : v > 0
      · rw [if_pos hv, if_pos hv]
        have hle : v ≤ most n := by rcases Int.lt_or_le (most n) v with h | h; exact absurd (.inl h) hc; exact h
        have hmo : most n ≤ 18446744073709551615 := by rcases hn with rfl | rfl <;> decide
        have e : IntKind.u64.wrap (IntKind.u64.wrap (most n - v) + 1) = most n - v + 1 := by rw [IntKind.wrap_u64, IntKind.wrap_u64]; omega
        rw [e]; rfl
      · rw [if_neg hv, if_neg hv]
        obtain rfl : v = 0 := by omega
        rfl
    · rw [if_neg hm, if_neg hm]; rfl
theorem rj5_f (n : Int) (hn : n = 32 ∨ n = 64) (t : ByteArray) (hs : t.size ≤ 1000) (minus : Bool) (k : Nat) (hk : 2000 ≤ k) (hf : flt t = false) :
    grommetref11_Int.j5 (k + 3) (tail_ t) n minus (base_ t) = some (told (body n t minus)) := by
  have hts := tail_size t
  have hbody : body n t minus = numR n minus (num t) := if_neg (by rw [hf]; exact Bool.false_ne_true)
  have hD : grommetref11_Digits.f (k + 2) (tail_ t) (base_ t) = some (dsR (tail_ t) [] (ds ((tail_ t).size + 1) (tail_ t) (base_ t) 0)) :=
    rdigits (tail_ t) (base_ t) (base_or t) (by omega) ((tail_ t).size + 1) 0 [] (k + 2) (by omega) (by omega) (by omega) (by omega) (by simp)
  rw [hbody, grommetref11_Int.j5, hD, Option.bind_some]
  have hnr := num_range t
  unfold num at hnr ⊢
  cases e : ds ((tail_ t).size + 1) (tail_ t) (base_ t) 0 with
  | none =>
    have h2 : (dsR (tail_ t) [] none).2 = false := rfl
    rw [if_neg (by rw [h2]; exact Bool.false_ne_true)]
    split <;> rfl
  | some l =>
    rw [e] at hnr
    have h2 : (dsR (tail_ t) [] (some l)).2 = decide (((tail_ t).size : Int) > 0) := rfl
    have h1 : (dsR (tail_ t) [] (some l)).1 = l := rfl
    by_cases hz : (tail_ t).size = 0
    · rw [if_neg (by rw [h2, decide_eq_false (by omega)]; exact Bool.false_ne_true), if_pos hz]; rfl
    · rw [if_pos (by rw [h2]; exact decide_eq_true (by omega)), if_neg hz, Option.map_some, h1]
      rw [if_neg hz, Option.map_some] at hnr
      have hlen := ds_len (tail_ t) (base_ t) _ _ _ e
      have hV : grommetref11_value.f (k + 2) l (base_ t) = some (valR (vals l (base_ t) 0)) := by
        have := rvalue (base_ t) (base_or t) l (ds_range _ _ _ _ _ e) (by omega) l.length 0 0 (k + 2) (by omega) (by omega) (by omega) (by omega)
        rw [List.drop_zero] at this
        unfold grommetref11_value.f
        have ew : IntKind.u64.wrap (base_ t) = base_ t := by rcases base_or t with h | h <;> rw [h] <;> rfl
        rw [ew]
        exact this
      rw [hV, Option.bind_some]
      cases ev : vals l (base_ t) 0 with
      | none =>
        have hv2 : (valR none).2 = false := rfl
        rw [hv2]
        rcases hn with rfl | rfl
        · rw [if_pos rfl, grommetref11_Int.j6, if_neg Bool.false_ne_true, grommetref11_Int.j7, if_pos rfl]; rfl
        · rw [if_neg (by decide), grommetref11_Int.j6, if_neg Bool.false_ne_true, grommetref11_Int.j7, if_pos rfl]; rfl
      | some v =>
        have hv := hnr v (by rw [ev])
        have e1 : (valR (some v)).1 = v := rfl
        have e2 : (valR (some v)).2 = true := rfl
        have key : grommetref11_Int.j6 (k + 2) minus v true (most n) (half n) = some (told (numR n minus (some (some v)))) := by
          rw [grommetref11_Int.j6, if_pos rfl]
          by_cases hg : v > most n
          · rw [if_pos hg, rj7_f n hn v hv.1 hv.2 minus true k (decide_eq_true (.inl hg)).symm]
          · rw [if_neg hg]
            by_cases hmm : minus = true
            · rw [if_pos hmm, rj7_f n hn v hv.1 hv.2 minus _ k (by congr 1; simp [hg, hmm])]
            · rw [if_neg hmm, rj7_f n hn v hv.1 hv.2 minus false k (by simp [hg, hmm])]
        rw [e1, e2]
        rcases hn with rfl | rfl
        · rw [if_pos rfl]; exact key
        · rw [if_neg (by decide)]; exact key
where
  ds_len (s : ByteArray) (b : Int) : ∀ n i l, ds n s b i = some l → l.length ≤ n
    | 0, _, _, h => by cases h
    | n + 1, i, l, h => by
      rw [ds] at h
      split at h
      · split at h
        · cases e : ds n s b (i + 1) with
          | none => rw [e] at h; cases h
          | some t =>
            rw [e] at h
            obtain rfl := Option.some.inj h
            have := ds_len s b n _ t e
            simp; omega
        · split at h
          · have := ds_len s b n _ l h; omega
          · cases h
      · obtain rfl := Option.some.inj h; simp
theorem rj4_f (n : Int) (hn : n = 32 ∨ n = 64) (t : ByteArray) (hs : t.size ≤ 1000) (minus : Bool) (k : Nat) (hk : 2000 ≤ k) :
    grommetref11_Int.j4 (k + 4) t n minus (sw t b0x) (flt t) = some (told (body n t minus)) := by
  rw [grommetref11_Int.j4]
  by_cases hf : flt t = true
  · rw [if_pos hf]
    unfold body
    rw [if_pos hf]; rfl
  · have h5 := rj5_f n hn t hs minus k hk (eq_false_of_ne_true hf)
    rw [if_neg hf]
    unfold tail_ base_ at h5
    by_cases hx : sw t b0x = true
    · rw [if_pos hx, if_pos hx] at h5
      have := sw_size hx
      have e2 : b0x.size = 2 := rfl
      rw [if_pos hx, if_pos (by omega)]
      exact h5
    · rw [if_neg hx, if_neg hx] at h5
      rw [if_neg hx]
      exact h5
theorem rj1_f (n : Int) (hn : n = 32 ∨ n = 64) (t : ByteArray) (hs : t.size ≤ 1000) (minus : Bool) (k : Nat) (hk : 6000 ≤ k) :
    grommetref11_Int.j1 (k + 7) t n minus = some (told (body n t minus)) := by
  rw [grommetref11_Int.j1, starts_f, Option.bind_some, starts_f, Option.bind_some, starts_f, Option.bind_some]
  have key : grommetref11_Int.j2 (k + 6) t n minus (sw t b0x) (sw t binf || sw t bnan) = some (told (body n t minus)) := by
    have h3 : grommetref11_Int.j3 (k + 5) t n minus (sw t b0x) (sw t binf || sw t bnan) (dig1 t) = some (told (body n t minus)) := by
      rw [grommetref11_Int.j3]
      have h4 := rj4_f n hn t hs minus k (by omega)
      unfold flt at h4
      by_cases hd : dig1 t = true
      · rw [if_pos hd]
        rw [hd, Bool.true_and] at h4
        by_cases hx : sw t b0x = true
        · rw [if_pos hx] at h4
          rw [if_pos hx, hasany_f t dpP rfl (by omega) (k + 4) (by omega), Option.bind_some]
          by_cases h1 : (sw t binf || sw t bnan) = true
          · rw [if_pos h1]; rw [h1, Bool.true_or] at h4; exact h4
          · rw [if_neg h1]
            rw [eq_false_of_ne_true h1, Bool.false_or] at h4
            by_cases hc : Lib.containsAny t.data.toList dpP.data.toList = true
            · rw [if_pos hc]; rw [hc] at h4; exact h4
            · rw [if_neg hc]; rw [eq_false_of_ne_true hc] at h4; exact h4
        · rw [if_neg hx] at h4
          rw [if_neg hx, hasany_f t deE rfl (by omega) (k + 4) (by omega), Option.bind_some]
          by_cases h1 : (sw t binf || sw t bnan) = true
          · rw [if_pos h1]; rw [h1, Bool.true_or] at h4; exact h4
          · rw [if_neg h1]
            rw [eq_false_of_ne_true h1, Bool.false_or] at h4
            exact h4
      · rw [if_neg hd]
        rw [eq_false_of_ne_true hd, Bool.false_and, Bool.or_false] at h4
        exact h4
    rw [grommetref11_Int.j2]
    unfold dig1 at h3
    by_cases hz : (t.size : Int) > 0
    · rw [if_pos hz, if_pos hz]
      rw [decide_eq_true hz, Bool.true_and] at h3
      by_cases h48 : bt t 0 ≥ 48
      · rw [if_pos h48]
        rw [decide_eq_true h48, Bool.true_and] at h3
        exact h3
      · rw [if_neg h48]
        rw [decide_eq_false h48, Bool.false_and] at h3
        exact h3
    · rw [if_neg hz]
      rw [decide_eq_false hz, Bool.false_and, Bool.false_and] at h3
      exact h3
  by_cases hi : sw t binf = true
  · rw [if_pos hi]; rw [hi, Bool.true_or] at key; exact key
  · rw [if_neg hi]; rw [eq_false_of_ne_true hi, Bool.false_or] at key; exact key
theorem rint_f (n : Int) (hn : n = 32 ∨ n = 64) (s : ByteArray) (hs : s.size ≤ 1000) (k : Nat) (hk : 6000 ≤ k) : grommetref11_Int.f (k + 8) s n = some (told (body n (rest s) (sw s bminus))) := by
  have h1 := rj1_f n hn (rest s) (Nat.le_trans (rest_size s) hs) (sw s bminus) k hk
  have e1 : bminus.size = 1 := rfl
  have e2 : bplus.size = 1 := rfl
  unfold rest at h1 ⊢
  unfold grommetref11_Int.f
  rw [starts_f, Option.bind_some, starts_f, Option.bind_some]
  by_cases hm : sw s bminus = true
  · have := sw_size hm
    rw [if_pos hm] at h1 ⊢
    rw [if_pos hm, grommetref11_Int.j0, if_pos rfl, if_pos (by omega)]
    exact h1
  · rw [if_neg hm] at h1 ⊢
    rw [if_neg hm, grommetref11_Int.j0]
    by_cases hp : sw s bplus = true
    · have := sw_size hp
      rw [if_pos hp] at h1 ⊢
      rw [if_pos hp, if_pos (by omega)]
      exact h1
    · rw [if_neg hp] at h1 ⊢
      rw [if_neg hp]
      exact h1
/-! What the other laws want of these answers. -/
theorem sw_one (s : ByteArray) (c : UInt8) : sw s ⟨#[c]⟩ = true → 0 < s.size ∧ bt s 0 = (c.toNat : Int) := by
  intro h
  have hz := sw_size h
  have e1 : (⟨#[c]⟩ : ByteArray).size = 1 := rfl
  rw [e1] at hz
  refine ⟨hz, ?_⟩
  unfold sw at h
  have h2 := (Bool.and_eq_true _ _ ▸ h).2
  have h3 := beq_iff_eq.1 h2
  rw [Lib.toList_data, Lib.toList_data] at h3
  have hl : 0 < s.data.toList.length := by rw [← Lib.size_eq]; exact hz
  have hb := bt_list s 0 hl
  have h4 : (s.extract 0 1).data.toList = s.data.toList.take 1 := by
    rw [ByteArray.data_extract, Array.toList_extract]
    simp [List.extract]
  obtain ⟨a, l, hc⟩ := List.exists_cons_of_length_pos hl
  have h0 : s.data.toList[0] = a := by simp only [hc]; rfl
  rw [e1, h4, hc] at h3
  have h5 : a = c := by
    have : [a] = [c] := h3
    exact (List.cons.inj this).1
  rw [h0, h5] at hb
  exact hb
theorem rest_plain (s : ByteArray) (h1 : bt s 0 ≠ 45) (h2 : bt s 0 ≠ 43) : rest s = s ∧ sw s bminus = false := by
  have a : ¬ sw s bminus = true := fun h => h1 (sw_one s 45 h).2
  have b : ¬ sw s bplus = true := fun h => h2 (sw_one s 43 h).2
  unfold rest
  rw [if_neg a, if_neg b]
  exact ⟨rfl, eq_false_of_ne_true a⟩
theorem numR_hi {n v : Int} {m : Bool} (h : v > most n ∨ (m = true ∧ v > half n)) : numR n m (some (some v)) = (0, some 7) := if_pos h
theorem numR_m {n v : Int} (h : ¬ (v > most n ∨ (true = true ∧ v > half n))) : numR n true (some (some v)) = (if v > 0 then most n - v + 1 else 0, none) := if_neg h
theorem numR_p {n v : Int} (h : ¬ v > most n) : numR n false (some (some v)) = (v, none) := if_neg (by simp [h])
theorem mo64 : most 64 = 18446744073709551615 := rfl
theorem mo32 : most 32 = 4294967295 := rfl
theorem ha64 : half 64 = 9223372036854775808 := rfl
theorem ha32 : half 32 = 2147483648 := rfl
theorem minus_law (t : ByteArray) : match (body 64 t false).2 with
    | some _ => ∃ c, (body 64 t true).2 = some c
    | none => if (body 64 t false).1 > 9223372036854775808 then (body 64 t true).2 = some 7 else (body 64 t true).2 = none ∧ ((body 64 t false).1 + (body 64 t true).1) % 18446744073709551616 = 0 := by
  unfold body
  by_cases hf : flt t = true
  · simp only [if_pos hf]; exact ⟨_, rfl⟩
  · simp only [if_neg hf]
    have hr := num_range t
    cases e : num t with
    | none => exact ⟨_, rfl⟩
    | some o =>
      cases o with
      | none => exact ⟨_, rfl⟩
      | some v =>
        have hv := hr v e
        rw [numR_p (by rw [mo64]; omega)]
        by_cases hh : v > 9223372036854775808
        · rw [numR_hi (m := true) (by rw [mo64, ha64]; exact .inr ⟨rfl, hh⟩)]
          simp only [if_pos hh]
        · rw [numR_m (by rw [mo64, ha64]; omega), mo64]
          simp only [if_neg hh]
          refine ⟨trivial, ?_⟩
          split <;> omega
theorem both_law (t : ByteArray) (m : Bool) : if (body 32 t m).2 = none ∧ (body 32 t m).1 < 2147483648 then (body 64 t m).2 = none ∧ (body 32 t m).1 = (body 64 t m).1 else ((body 32 t m).2 ≠ none ∨ (body 64 t m).2 = none) := by
  unfold body
  by_cases hf : flt t = true
  · simp only [if_pos hf]; simp
  · simp only [if_neg hf]
    have hr := num_range t
    cases e : num t with
    | none => simp [numR]
    | some o =>
      cases o with
      | none => simp [numR]
      | some v =>
        have hv := hr v e
        by_cases hc : v > most 32 ∨ (m = true ∧ v > half 32)
        · rw [numR_hi hc]; simp
        · rw [mo32, ha32] at hc
          cases m with
          | false =>
            rw [numR_p (by rw [mo32]; omega), numR_p (by rw [mo64]; omega)]
            simp
          | true =>
            rw [numR_m (by rw [mo32, ha32]; exact hc), numR_m (by rw [mo64, ha64]; omega), mo32, mo64]
            by_cases hz : v > 0
            · simp only [if_pos hz]
              rw [if_neg (by intro h; have := h.2; have h9 : ¬ v > 2147483648 := fun h8 => hc (.inr ⟨rfl, h8⟩); omega)]
              exact .inr trivial
            · simp only [if_neg hz]
              simp
end Go.Proofs.Ytjenbegobpfclaa.Tp
