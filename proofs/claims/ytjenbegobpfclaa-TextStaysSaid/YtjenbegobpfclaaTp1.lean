/- Numbers: what text.Int and the document's Int answer, in plain words. -/
import Derived.Test.YtjenbegobpfclaaTp0
import Derived.Test.YtjenbegobpfclaaRTextAllx7
set_option linter.unusedVariables false
set_option linter.unusedSimpArgs false
namespace Go.Proofs.Ytjenbegobpfclaa.Tp
open Go.RowKit Go.Proofs.Ytjenbegobpfclaa.Man Go.Proofs.YtjenbegobpfclaaW.PrintWords Go.Proofs.YtjenbegobpfclaaW.PrintLast Go.Proofs.YtjenbegobpfclaaW.PrintMore Go.Proofs.Ytjenbegobpfclaa.RTextAll
theorem bt_list (s : ByteArray) (i : Nat) (h : i < s.data.toList.length) : bt s (i : Int) = ((s.data.toList[i]).toNat : Int) := by
  have h2 : i < s.size := by rw [Lib.size_eq]; exact h
  rw [← bt_at s (i : Int) h2]
  rfl
theorem any_cons (x : UInt8) (l c : List UInt8) : Lib.containsAny (x :: l) c = (c.contains x || Lib.containsAny l c) := by
  unfold Lib.containsAny
  rw [Lib.indexAny]
  have hge := Lib.indexAny_ge c l
  cases h : c.contains x with
  | true => rw [if_pos rfl]; rfl
  | false =>
    rw [if_neg Bool.false_ne_true, Bool.false_or]
    by_cases e : Lib.indexAny l c = -1
    · rw [if_pos (beq_iff_eq.2 e), e]
    · rw [if_neg (fun h => e (beq_iff_eq.1 h))]
      congr 1
      simp only [eq_iff_iff]
      omega
theorem u8_int (x y : UInt8) : ((x.toNat : Int) = (y.toNat : Int)) ↔ x = y := by
  constructor
  · intro h; exact UInt8.toNat_inj.1 (by omega)
  · intro h; rw [h]
theorem has_l1 (s p : ByteArray) (hp : p.size ≤ 1000) (i : Nat) (hi : i < s.data.toList.length) (k : Nat) : ∀ (m j : Nat), j + m = p.size → grommetref11_has.l1 (m + 1 + k) s p (i : Int) (j : Int) = if (p.data.toList.drop j).contains (s.data.toList[i]) = true then some true else grommetref11_has.l0 k s p (wrap64 ((i : Int) + 1))
  | 0, j, hj => by
    have e : p.data.toList.drop j = [] := List.drop_of_length_le (by rw [← Lib.size_eq]; omega)
    rw [show 0 + 1 + k = k + 1 by omega, grommetref11_has.l1, if_neg (by omega), e]
    simp
  | m + 1, j, hj => by
    have hjl : j < p.data.toList.length := by rw [← Lib.size_eq]; omega
    have hsz : i < s.size := by rw [Lib.size_eq]; exact hi
    have w1 : wrap64 ((j : Int) + 1) = ((j + 1 : Nat) : Int) := by unfold wrap64; omega
    rw [show m + 1 + 1 + k = (m + 1 + k) + 1 by omega, grommetref11_has.l1, if_pos (by omega), if_pos (by omega), if_pos (by omega), if_pos (by omega), bt_list s i hi, bt_list p j hjl, List.drop_eq_getElem_cons hjl, w1, has_l1 s p hp i hi k m (j + 1) (by omega)]
    by_cases e : s.data.toList[i] = p.data.toList[j]
    · rw [if_pos ((u8_int _ _).2 e), if_pos (by rw [List.contains_cons, e]; simp)]
    · rw [if_neg (fun h => e ((u8_int _ _).1 h))]
      have : (s.data.toList[i] == p.data.toList[j]) = false := beq_eq_false_iff_ne.2 e
      rw [List.contains_cons, this, Bool.false_or]
theorem has_l0 (s p : ByteArray) (hp : p.size = 3) (hs : s.size ≤ 1000000) : ∀ (n i k : Nat), i + n = s.size → n * 5 + 1 ≤ k → grommetref11_has.l0 k s p (i : Int) = some (Lib.containsAny (s.data.toList.drop i) p.data.toList)
  | 0, i, k, hi, hk => by
    obtain ⟨k, rfl⟩ : ∃ j, k = j + 1 := ⟨k - 1, by omega⟩
    rw [grommetref11_has.l0, if_neg (by omega), List.drop_of_length_le (by rw [← Lib.size_eq]; omega)]
    rfl
  | n + 1, i, k, hi, hk => by
    obtain ⟨k, rfl⟩ : ∃ j, k = j + 5 := ⟨k - 5, by omega⟩
    have hil : i < s.data.toList.length := by rw [← Lib.size_eq]; omega
    have w1 : wrap64 ((i : Int) + 1) = ((i + 1 : Nat) : Int) := by unfold wrap64; omega
    have h1 := has_l1 s p (by omega) i hil k 3 0 (by omega)
    rw [show k + 5 = (k + 4) + 1 by omega, grommetref11_has.l0, if_pos (by omega)]
    rw [show 3 + 1 + k = k + 4 by omega, w1, List.drop_zero] at h1
    rw [show ((0 : Int)) = ((0 : Nat) : Int) from rfl, h1, List.drop_eq_getElem_cons hil, any_cons, has_l0 s p hp hs n (i + 1) k (by omega) (by omega)]
    cases (p.data.toList.contains s.data.toList[i]) <;> simp
theorem hasany_f (s p : ByteArray) (hp : p.size = 3) (hs : s.size ≤ 1000000) (k : Nat) (hk : s.size * 5 + 1 ≤ k) : grommetref11_has.f k s p = some (Lib.containsAny s.data.toList p.data.toList) := by
  have := has_l0 s p hp hs s.size 0 k (by omega) hk
  rw [List.drop_zero] at this
  exact this
abbrev dpP : ByteArray := ⟨#[46, 112, 80]⟩
abbrev deE : ByteArray := ⟨#[46, 101, 69]⟩
abbrev b0x : ByteArray := ⟨#[48, 120]⟩
abbrev binf : ByteArray := ⟨#[105, 110, 102]⟩
abbrev bnan : ByteArray := ⟨#[110, 97, 110]⟩
abbrev bminus : ByteArray := ⟨#[45]⟩
abbrev bplus : ByteArray := ⟨#[43]⟩
/-- Does it begin with a digit? -/
def dig1 (t : ByteArray) : Bool := decide (0 < (t.size : Int)) && decide (bt t 0 ≥ 48) && decide (bt t 0 ≤ 57)
def flt (t : ByteArray) : Bool := sw t binf || sw t bnan || (dig1 t && (if sw t b0x = true then Lib.containsAny t.data.toList dpP.data.toList else Lib.containsAny t.data.toList deE.data.toList))
def most (n : Int) : Int := if n = 32 then 4294967295 else 18446744073709551615
def half (n : Int) : Int := if n = 32 then 2147483648 else 9223372036854775808
def tail_ (t : ByteArray) : ByteArray := if sw t b0x = true then t.extract 2 t.size else t
def base_ (t : ByteArray) : Int := if sw t b0x = true then 16 else 10
def num (t : ByteArray) : Option (Option Int) := if (tail_ t).size = 0 then none else (ds ((tail_ t).size + 1) (tail_ t) (base_ t) 0).map fun l => vals l (base_ t) 0
def numR (n : Int) (minus : Bool) : Option (Option Int) → Int × Option Int
  | none => (0, some 2)
  | some none => (0, some 7)
  | some (some v) => if v > most n ∨ (minus = true ∧ v > half n) then (0, some 7) else if minus = true then (if v > 0 then most n - v + 1 else 0, none) else (v, none)
def body (n : Int) (t : ByteArray) (minus : Bool) : Int × Option Int := if flt t = true then (0, some 3) else numR n minus (num t)
def rest (s : ByteArray) : ByteArray := if sw s bminus = true then s.extract 1 s.size else if sw s bplus = true then s.extract 1 s.size else s
theorem any1_f (s : ByteArray) (hs : s.size ≤ 1000000) : strings_ContainsAny.f s dpP = some (Lib.containsAny s.data.toList dpP.data.toList) := by
  unfold strings_ContainsAny.f
  rw [if_pos ⟨.inl rfl, hs⟩]
theorem any2_f (s : ByteArray) (hs : s.size ≤ 1000000) : strings_ContainsAny.f s deE = some (Lib.containsAny s.data.toList deE.data.toList) := by
  unfold strings_ContainsAny.f
  rw [if_pos ⟨.inr rfl, hs⟩]
theorem size_nil {t : ByteArray} (h : t.toList = []) : t.size = 0 := by
  rw [Lib.toList_data] at h
  rw [Lib.size_eq, h]; rfl
theorem nil_size {t : ByteArray} (h : ¬ t.toList = []) : 0 < t.size := by
  rw [Lib.toList_data] at h
  rw [Lib.size_eq]
  exact List.length_pos_iff.2 h
theorem float_f (t : ByteArray) (hs : t.size ≤ 1000000) (k : Nat) : text_float.f (k + 2) t = some (flt t) := by
  unfold text_float.f flt
  rw [has_f, has_f]
  simp only [Option.bind_some]
  by_cases h1 : sw t binf = true
  · rw [if_pos h1, h1, text_float.j0, if_pos rfl]; rfl
  · rw [if_neg h1, text_float.j0, eq_false_of_ne_true h1, Bool.false_or]
    by_cases h2 : sw t bnan = true
    · rw [if_pos h2, h2]; rfl
    · rw [if_neg h2, eq_false_of_ne_true h2, Bool.false_or]
      unfold dig1
      by_cases h3 : t.toList = []
      · have := size_nil h3
        rw [if_pos h3, text_float.j1, if_pos rfl, decide_eq_false (by omega)]; rfl
      · have := nil_size h3
        rw [if_neg h3, if_pos (by omega), decide_eq_true (by omega : 0 < (t.size : Int))]
        by_cases h4 : bt t 0 < 48
        · rw [if_pos h4, text_float.j1, if_pos rfl, decide_eq_false (by omega : ¬ bt t 0 ≥ 48)]; rfl
        · rw [if_neg h4, text_float.j1, decide_eq_true (by omega : bt t 0 ≥ 48)]
          by_cases h5 : bt t 0 > 57
          · rw [decide_eq_true h5, if_pos rfl, decide_eq_false (by omega)]; rfl
          · rw [decide_eq_false h5, if_neg Bool.false_ne_true, decide_eq_true (by omega : bt t 0 ≤ 57), has_f]
            simp only [Option.bind_some, Bool.true_and]
            by_cases h6 : sw t b0x = true
            · rw [if_pos h6, if_pos h6, any1_f t hs]; rfl
            · rw [if_neg h6, if_neg h6, any2_f t hs]; rfl
theorem tail_size (t : ByteArray) : (tail_ t).size ≤ t.size := by
  unfold tail_
  split
  · rw [ByteArray.size_extract]; omega
  · exact Nat.le_refl _
theorem rest_size (t : ByteArray) : (rest t).size ≤ t.size := by
  unfold rest
  split
  · rw [ByteArray.size_extract]; omega
  · split
    · rw [ByteArray.size_extract]; omega
    · exact Nat.le_refl _
theorem base_or (t : ByteArray) : base_ t = 10 ∨ base_ t = 16 := by
  unfold base_; split
  · exact .inr rfl
  · exact .inl rfl
theorem num_range (t : ByteArray) (v : Int) (h : num t = some (some v)) : 0 ≤ v ∧ v ≤ 18446744073709551615 := by
  unfold num at h
  split at h
  · cases h
  · cases e : ds ((tail_ t).size + 1) (tail_ t) (base_ t) 0 with
    | none => rw [e] at h; cases h
    | some l =>
      rw [e] at h
      have h' : vals l (base_ t) 0 = some v := Option.some.inj h
      exact vals_range _ (base_or t) l 0 v (ds_range _ _ _ _ _ e) (by omega) (by omega) h'
theorem neg32 (v : Int) (h0 : 0 ≤ v) (h1 : v ≤ 2147483648) : Go.bits .and .u64 (IntKind.u64.wrap (-v)) 4294967295 = if v > 0 then 4294967295 - v + 1 else 0 := by
  have hm := bits_mask .u64 64 (by decide) (fun n h0 h1 => by rw [IntKind.wrap_u64]; omega) 32 (by decide) (IntKind.u64.wrap (-v)) (by rw [IntKind.wrap_u64]; omega) (by rw [IntKind.wrap_u64]; omega)
  rw [show ((2 : Int) ^ 32 - 1) = 4294967295 from by decide] at hm
  rw [hm, IntKind.wrap_u64]
  split <;> omega
theorem neg64 (v : Int) (h0 : 0 ≤ v) (h1 : v ≤ 9223372036854775808) : Go.bits .and .u64 (IntKind.u64.wrap (-v)) 18446744073709551615 = if v > 0 then 18446744073709551615 - v + 1 else 0 := by
  have hm := bits_mask .u64 64 (by decide) (fun n h0 h1 => by rw [IntKind.wrap_u64]; omega) 64 (by decide) (IntKind.u64.wrap (-v)) (by rw [IntKind.wrap_u64]; omega) (by rw [IntKind.wrap_u64]; omega)
  rw [show ((2 : Int) ^ 64 - 1) = 18446744073709551615 from by decide] at hm
  rw [hm, IntKind.wrap_u64]
  split <;> omega
theorem shr32 : shr .u64 18446744073709551615 (wrap64 (64 - 32)) = 4294967295 := by kernel_rfl
theorem shr64 : shr .u64 18446744073709551615 (wrap64 (64 - 64)) = 18446744073709551615 := by kernel_rfl
theorem j3_f (n : Int) (hn : n = 32 ∨ n = 64) (v : Int) (h0 : 0 ≤ v) (minus big : Bool) (k : Nat) (hb : big = decide (v > most n ∨ (minus = true ∧ v > half n))) :
    text_Int.j3 (k + 1) minus v (most n) big = some (if v > most n ∨ (minus = true ∧ v > half n) then (0, some 7) else if minus = true then (if v > 0 then most n - v + 1 else 0, none) else (v, none)) := by
  rw [text_Int.j3, hb]
  by_cases hc : v > most n ∨ (minus = true ∧ v > half n)
  · rw [if_pos (decide_eq_true hc), if_pos hc]
  · rw [if_neg (by rw [decide_eq_false hc]; exact Bool.false_ne_true), if_neg hc]
    by_cases hm : minus = true
    · rw [if_pos hm, if_pos hm]
      congr 2
      rcases hn with rfl | rfl
      · exact neg32 v h0 (by simp [half] at hc; have := hc.2 hm; omega)
      · exact neg64 v h0 (by simp [half] at hc; have := hc.2 hm; omega)
    · rw [if_neg hm, if_neg hm]
theorem j2_f (n : Int) (hn : n = 32 ∨ n = 64) (t : ByteArray) (hs : t.size ≤ 1000000) (minus : Bool) (k : Nat) (hf : flt t = false) :
    text_Int.j2 (k + 2) n (tail_ t) minus (base_ t) = some (body n t minus) := by
  have hts := tail_size t
  have hm : (shr .u64 18446744073709551615 (wrap64 (64 - n))) = most n ∧ 0 ≤ wrap64 (64 - n) ∧ IntKind.u64.wrap (most n / 2 + 1) = half n := by
    rcases hn with rfl | rfl
    · exact ⟨shr32, of_decide_eq_true (by kernel_rfl), by kernel_rfl⟩
    · exact ⟨shr64, of_decide_eq_true (by kernel_rfl), by kernel_rfl⟩
  obtain ⟨r, hr, hA⟩ := tdigits (tail_ t) (base_ t) (base_or t) ((tail_ t).size + 1) 0 0 true (by omega) (by omega) (by omega) (by omega) (by omega) (.inl rfl)
  have hd : text_digits.f (tail_ t) (base_ t) = some r := by
    unfold text_digits.f
    rw [if_pos ⟨base_or t, by omega⟩]
    exact hr
  have hbody : body n t minus = numR n minus (num t) := if_neg (by rw [hf]; exact Bool.false_ne_true)
  rw [hbody, text_Int.j2, hd, Option.bind_some, if_pos hm.2.1, hm.1, hm.2.2]
  have hnr := num_range t
  unfold num at hnr ⊢
  cases e : ds ((tail_ t).size + 1) (tail_ t) (base_ t) 0 with
  | none =>
    rw [e] at hA
    have hA' : r.2.2 = false := hA
    rw [if_neg (by rw [hA']; exact Bool.false_ne_true)]
    split <;> rfl
  | some l =>
    rw [e] at hA hnr
    obtain ⟨a1, a2, a3⟩ := hA
    by_cases hz : (tail_ t).size = 0
    · rw [if_neg (by rw [a1, decide_eq_false (by omega)]; exact Bool.false_ne_true), if_pos hz]; rfl
    · rw [if_pos (by rw [a1]; exact decide_eq_true (by omega)), if_neg hz, Option.map_some]
      rw [if_neg hz, Option.map_some] at hnr
      cases ev : vals l (base_ t) 0 with
      | none =>
        rw [ev] at a2
        rw [if_neg (by rw [a2]; simp), text_Int.j3, if_pos rfl]; rfl
      | some v =>
        have hv := (hnr v (by rw [ev])).1
        rw [ev] at a2
        rw [if_pos (by rw [a2]; rfl), a3 rfl v ev]
        show _ = some (if v > most n ∨ (minus = true ∧ v > half n) then (0, some 7) else if minus = true then (if v > 0 then most n - v + 1 else 0, none) else (v, none))
        by_cases hg : v > most n
        · rw [if_pos hg, j3_f n hn v hv minus true k (decide_eq_true (.inl hg)).symm]
        · rw [if_neg hg]
          by_cases hmm : minus = true
          · rw [if_pos hmm, j3_f n hn v hv minus _ k (by congr 1; simp [hg, hmm])]
          · rw [if_neg hmm, j3_f n hn v hv minus false k (by simp [hg, hmm])]
theorem j1_f (n : Int) (hn : n = 32 ∨ n = 64) (t : ByteArray) (hs : t.size ≤ 1000000) (minus : Bool) (k : Nat) :
    text_Int.j1 (k + 3) n t minus = some (body n t minus) := by
  rw [text_Int.j1, float_f t hs, Option.bind_some]
  by_cases hf : flt t = true
  · rw [if_pos hf]
    unfold body
    rw [if_pos hf]
  · have h2 := j2_f n hn t hs minus k (eq_false_of_ne_true hf)
    rw [if_neg hf, cut_f, Option.bind_some]
    unfold tail_ base_ at h2
    by_cases hx : sw t b0x = true
    · rw [if_pos hx, if_pos hx] at h2
      simp only [hx, if_true]
      exact h2
    · rw [if_neg hx, if_neg hx] at h2
      simp only [hx]
      rw [if_neg Bool.false_ne_true, if_neg (by simp)]
      exact h2
theorem int_f (n : Int) (hn : n = 32 ∨ n = 64) (s : ByteArray) (hs : s.size ≤ 1000000) (k : Nat) : text_Int.f (k + 4) s n = some (body n (rest s) (sw s bminus)) := by
  have h1 := fun m => j1_f n hn (rest s) (Nat.le_trans (rest_size s) hs) m k
  have h0 : text_Int.j0 (k + 4) s n false = some (body n (rest s) (sw s bminus)) := by
    rw [text_Int.j0, if_neg Bool.false_ne_true, cut_f, Option.bind_some, trim_f]
    unfold rest at h1 ⊢
    by_cases hx : sw s bminus = true
    · rw [if_pos hx] at h1 ⊢
      rw [hx]
      simp only [if_true]
      exact h1 true
    · rw [if_neg hx] at h1 ⊢
      rw [eq_false_of_ne_true hx]
      simp only [Bool.false_eq_true, if_false, Option.bind_some]
      exact h1 false
  unfold text_Int.f
  rcases hn with rfl | rfl
  · rw [if_pos rfl, h0]
  · rw [if_neg (by decide), show ((64 : Int) != 64) = false by decide, h0]
theorem int_bad (n : Int) (h1 : n ≠ 32) (h2 : n ≠ 64) (s : ByteArray) (k : Nat) : text_Int.f (k + 1) s n = some (0, some 1) := by
  unfold text_Int.f
  rw [if_neg h1, text_Int.j0, if_pos (bne_iff_ne.2 h2)]
end Go.Proofs.Ytjenbegobpfclaa.Tp
