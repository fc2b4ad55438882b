/- What text.Bytes tells of any string; of a quoted one. -/
import Derived.Test.YtjenbegobpfclaaTp3
import Derived.Test.YtjenbegobpfclaaQt0
set_option linter.unusedVariables false
set_option linter.unusedSimpArgs false
namespace Go.Proofs.Ytjenbegobpfclaa.Tp
open Go.RowKit Go.Proofs.Ytjenbegobpfclaa.Man Go.Proofs.YtjenbegobpfclaaW.PrintWords Go.Proofs.YtjenbegobpfclaaW.PrintLast Go.Proofs.YtjenbegobpfclaaW.PrintMore Go.Proofs.Ytjenbegobpfclaa.RTextAll Go.Proofs.Ytjenbegobpfclaa.Tx
theorem bt_extract (s : ByteArray) (a j : Nat) (h : a + j < s.size) : bt (s.extract a s.size) (j : Int) = bt s ((a + j : Nat) : Int) := by
  have hl : a + j < s.data.toList.length := by rw [← Lib.size_eq]; exact h
  have he : (s.extract a s.size).data.toList = s.data.toList.drop a := by
    rw [ByteArray.data_extract, Array.toList_extract]
    have : s.size = s.data.toList.length := Lib.size_eq s
    simp [List.extract]
    exact List.take_of_length_le (by rw [List.length_drop, this]; exact Nat.le_refl _)
  have hl2 : j < (s.extract a s.size).data.toList.length := by rw [he, List.length_drop]; omega
  rw [bt_list _ j hl2, bt_list s (a + j) hl]
  congr 2
  simp only [he, List.getElem_drop]
theorem ext_size (s : ByteArray) (a : Nat) : (s.extract a s.size).size = s.size - a := by rw [ByteArray.size_extract]; omega
theorem bys_total (s : ByteArray) (hs : s.size ≤ 1000) : ∀ (n : Nat) (i : Int) (out : List Int), 0 ≤ i → i ≤ s.size → s.size < i + n → (out.length : Int) ≤ 4 * i → ∃ r, bysL n 12 s i out = some r ∧ ∀ o, r = .ok o → o.length ≤ 4000
  | 0, i, out, h0, h1, h2, h3 => by omega
  | n + 1, i, out, h0, h1, h2, h3 => by
    rw [bysL]
    by_cases hlt : i < (s.size : Int)
    · rw [if_pos hlt]
      by_cases h92 : bt s i = 92
      · have hz : (s.extract (i + 1).toNat s.size).size = s.size - (i + 1).toNat := ext_size s _
        obtain ⟨b0, b1, b2⟩ := esc_bounds (s.extract (i + 1).toNat s.size)
        rw [if_pos h92, esc_f _ (by omega), Option.bind_some]
        by_cases hn : (esc (s.extract (i + 1).toNat s.size)).2 = 0
        · rw [if_pos hn]
          exact ⟨_, rfl, fun o ho => by cases ho⟩
        · rw [if_neg hn, if_pos ⟨b0, by omega, by omega⟩]
          exact bys_total s hs n _ _ (by omega) (by omega) (by omega) (by rw [List.length_append]; omega)
      · rw [if_neg h92, if_pos (by omega)]
        exact bys_total s hs n _ _ (by omega) (by omega) (by omega) (by rw [List.length_append]; simp only [List.length_cons, List.length_nil]; omega)
    · rw [if_neg hlt]
      exact ⟨_, rfl, fun o ho => by injection ho with ho; subst ho; omega⟩
theorem bys_all (s : ByteArray) (hs : s.size ≤ 1000) : ∃ r, bysL (s.size + 1) 12 s 0 [] = some r ∧ ∀ o, r = .ok o → o.length ≤ 4000 :=
  bys_total s hs (s.size + 1) 0 [] (by omega) (by omega) (by omega) (by simp)
theorem hex_facts : ∀ x : Fin 256, ((hexc ((x.val : Int) / 16)).toNat : Int) ≠ 116 ∧ ((hexc ((x.val : Int) / 16)).toNat : Int) ≠ 110 ∧ ((hexc ((x.val : Int) / 16)).toNat : Int) ≠ 114 ∧ ((hexc ((x.val : Int) / 16)).toNat : Int) ≠ 34 ∧ ((hexc ((x.val : Int) / 16)).toNat : Int) ≠ 39 ∧ ((hexc ((x.val : Int) / 16)).toNat : Int) ≠ 92 ∧ ((hexc ((x.val : Int) / 16)).toNat : Int) ≠ 117 ∧ dg ((hexc ((x.val : Int) / 16)).toNat : Int) 16 = (x.val : Int) / 16 ∧ dg ((hexc ((x.val : Int) % 16)).toNat : Int) 16 = (x.val : Int) % 16 := by decide +kernel
theorem esc_hex (t : ByteArray) (x : Int) (h0 : 0 ≤ x) (h1 : x < 256) (hz : 2 ≤ t.size) (ha : bt t 0 = ((hexc (x / 16)).toNat : Int)) (hb : bt t 1 = ((hexc (x % 16)).toNat : Int)) : esc t = ([x], 2) := by
  have h := hex_facts ⟨x.toNat, by omega⟩
  have e : ((x.toNat : Nat) : Int) = x := Int.toNat_of_nonneg h0
  simp only [e] at h
  rw [← ha, ← hb] at h
  obtain ⟨c1, c2, c3, c4, c5, c6, c7, d1, d2⟩ := h
  unfold esc
  rw [if_neg (by omega), if_neg c1, if_neg c2, if_neg c3, if_neg (by rintro (h | h | h); exact c4 h; exact c5 h; exact c6 h), if_neg c7, if_pos ⟨by omega, by omega, by omega⟩, d1, d2]
  congr 2
  omega
theorem arr_list (L : List UInt8) : (⟨L.toArray⟩ : ByteArray).data.toList = L := rfl
theorem arr_size (L : List UInt8) : (⟨L.toArray⟩ : ByteArray).size = L.length := by rw [Lib.size_eq]
theorem bt_arr (L : List UInt8) (i : Nat) (u : UInt8) (h : L[i]? = some u) : bt ⟨L.toArray⟩ (i : Int) = (u.toNat : Int) := by
  obtain ⟨hl, he⟩ := List.getElem?_eq_some_iff.1 h
  rw [bt_list ⟨L.toArray⟩ i hl]
  have : (⟨L.toArray⟩ : ByteArray).data.toList[i]'hl = u := he
  rw [this]
theorem quo_split (l : List Int) (n : Nat) (h : n < l.length) : quo l = quo (l.take n) ++ (quo1 (l[n]'h) ++ quo (l.drop (n + 1))) := by
  have e : l = l.take n ++ (l[n]'h :: l.drop (n + 1)) := by
    rw [← List.drop_eq_getElem_cons h, List.take_append_drop]
  have e2 := congrArg quo e
  rw [e2]
  unfold quo
  rw [List.flatMap_append, List.flatMap_cons]
theorem bys_quo (l : List Int) (hl : ∀ x ∈ l, 0 ≤ x ∧ x < 256) (hn : l.length ≤ 1000) : ∀ (m n f : Nat), n + m = l.length → m + 1 ≤ f → bysL f 12 ⟨(quo l).toArray⟩ ((quo (l.take n)).length : Int) (l.take n) = some (.ok l)
  | 0, n, f, hm, hf => by
    obtain ⟨f, rfl⟩ : ∃ j, f = j + 1 := ⟨f - 1, by omega⟩
    rw [bysL, List.take_of_length_le (by omega), if_neg (by rw [arr_size]; omega)]
  | m + 1, n, f, hm, hf => by
    obtain ⟨f, rfl⟩ : ∃ j, f = j + 1 := ⟨f - 1, by omega⟩
    have hlt : n < l.length := by omega
    have hx := hl l[n] (List.getElem_mem hlt)
    have hsp := quo_split l n hlt
    have htk := quo_take l n hlt
    have ht2 : l.take (n + 1) = l.take n ++ [l[n]] := by simp
    have ih := bys_quo l hl hn m (n + 1) f (by omega) (by omega)
    rw [htk, List.length_append, ht2] at ih
    have hql := quo_len l
    obtain ⟨x, hxx⟩ : ∃ x, l[n] = x := ⟨_, rfl⟩
    rw [hxx] at hx hsp ih
    obtain ⟨pre, hpre⟩ : ∃ p, quo (l.take n) = p := ⟨_, rfl⟩
    rw [hpre] at hsp ih ⊢
    have hat : ∀ j u, (quo1 x)[j]? = some u → (quo l)[pre.length + j]? = some u := by
      intro j u hj
      rw [hsp, List.getElem?_append_right (by omega), Nat.add_sub_cancel_left, List.getElem?_append_left (List.getElem?_eq_some_iff.1 hj).1]
      exact hj
    have hsz : pre.length + (quo1 x).length ≤ (quo l).length := by rw [hsp]; simp
    have htl : (l.take n).length ≤ 1000 := by rw [List.length_take]; omega
    rw [bysL]
    by_cases hp : plain x = true
    · have hq : quo1 x = [x.toNat.toUInt8] := if_pos hp
      have hb := bt_arr (quo l) pre.length x.toNat.toUInt8 (by have := hat 0 x.toNat.toUInt8 (by rw [hq]; rfl); simpa using this)
      have hbx : ((x.toNat.toUInt8).toNat : Int) = x := by simp; omega
      rw [hbx] at hb
      have h92 : x ≠ 92 := by
        intro e
        rw [e] at hp
        exact absurd hp (by decide)
      rw [hq] at ih hsz
      simp only [List.length_cons, List.length_nil] at hsz ih
      rw [if_pos (by rw [arr_size]; omega), hb, if_neg h92, if_pos (by omega)]
      exact ih
    · have hq : quo1 x = [92, hexc (x / 16), hexc (x % 16)] := if_neg hp
      have hb := bt_arr (quo l) pre.length 92 (by have := hat 0 92 (by rw [hq]; rfl); simpa using this)
      have hb1 := bt_arr (quo l) (pre.length + 1) (hexc (x / 16)) (hat 1 _ (by rw [hq]; rfl))
      have hb2 := bt_arr (quo l) (pre.length + 2) (hexc (x % 16)) (hat 2 _ (by rw [hq]; rfl))
      rw [hq] at ih hsz
      simp only [List.length_cons, List.length_nil] at hsz ih
      have e1 : ((pre.length : Int) + 1).toNat = pre.length + 1 := by omega
      have hsz2 : (⟨(quo l).toArray⟩ : ByteArray).size = (quo l).length := arr_size _
      have hesc := esc_hex ((⟨(quo l).toArray⟩ : ByteArray).extract (pre.length + 1) (⟨(quo l).toArray⟩ : ByteArray).size) x hx.1 hx.2 (by rw [ext_size]; omega)
        (by have := bt_extract ⟨(quo l).toArray⟩ (pre.length + 1) 0 (by omega); rw [Nat.add_zero, hb1] at this; exact this)
        (by have := bt_extract ⟨(quo l).toArray⟩ (pre.length + 1) 1 (by omega); rw [hb2] at this; exact this)
      rw [if_pos (by rw [hsz2]; omega), hb, if_pos (by decide), e1, esc_f _ (by rw [ext_size]; omega), hesc, Option.bind_some]
      rw [if_neg (show ¬ (2 : Int) = 0 by decide), if_pos ⟨show (0 : Int) ≤ 2 by decide, show (2 : Int) ≤ 1000000 by decide, by simp only [List.length_cons, List.length_nil]; omega⟩]
      have e3 : (pre.length : Int) + 2 + 1 = ((pre.length + 3 : Nat) : Int) := by omega
      rw [e3]
      exact ih
theorem bys_quote (l : List Int) (hl : ∀ x ∈ l, 0 ≤ x ∧ x < 256) (hn : l.length ≤ 1000) : bysL ((⟨(quo l).toArray⟩ : ByteArray).size + 1) 12 ⟨(quo l).toArray⟩ 0 [] = some (.ok l) := by
  have := bys_quo l hl hn l.length 0 ((⟨(quo l).toArray⟩ : ByteArray).size + 1) (by omega) (by
    rw [arr_size]
    have : ∀ l : List Int, l.length ≤ (quo l).length := by
      intro l
      induction l with
      | nil => exact Nat.le_refl _
      | cons x l ih =>
        have : 1 ≤ (quo1 x).length := by unfold quo1; split <;> simp
        simp [quo] at ih ⊢
        omega
    have := this l
    omega)
  exact this
end Go.Proofs.Ytjenbegobpfclaa.Tp
