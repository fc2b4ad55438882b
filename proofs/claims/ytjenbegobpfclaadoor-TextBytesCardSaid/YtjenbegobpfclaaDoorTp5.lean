/- The document's escape and Bytes answer as the program's do. -/
import Derived.Test.YtjenbegobpfclaaDoorTp3
import Derived.Test.YtjenbegobpfclaaDoorRTextBytesx8
import Derived.Lib.IndexLaws
set_option linter.unusedVariables false
set_option linter.unusedSimpArgs false
namespace Go.Proofs.YtjenbegobpfclaaDoor.Tp
open Go.RowKit Go.Proofs.YtjenbegobpfclaaDoor.Man Go.Proofs.YtjenbegobpfclaaDoorW.PrintWords Go.Proofs.YtjenbegobpfclaaDoorW.PrintLast Go.Proofs.YtjenbegobpfclaaDoorW.PrintMore Go.Proofs.YtjenbegobpfclaaDoor.RTextBytes Go.Proofs.YtjenbegobpfclaaDoor.Tx
theorem bt_extract (s : ByteArray) (a j : Nat) (h : a + j < s.size) : bt (s.extract a s.size) (j : Int) = bt s ((a + j : Nat) : Int) := by
  have hl : a + j < s.data.toList.length := by rw [← Lib.size_eq]; exact h
  have he : (s.extract a s.size).data.toList = s.data.toList.drop a := by
    rw [ByteArray.data_extract, Array.toList_extract]
    have : s.size = s.data.toList.length := Lib.size_eq s
    simp [List.extract]
    exact List.take_of_length_le (by rw [List.length_drop, this]; exact Nat.le_refl _)
  have hl2 : j < (s.extract a s.size).data.toList.length := by rw [he, List.length_drop]; omega
  rw [bt_list _ j hl2, bt_list s (a + j) hl]
  congr 2
  simp only [he, List.getElem_drop]
theorem ext_size (s : ByteArray) (a : Nat) : (s.extract a s.size).size = s.size - a := by rw [ByteArray.size_extract]; omega
theorem bys_total (s : ByteArray) (hs : s.size ≤ 1000) : ∀ (n : Nat) (i : Int) (out : List Int), 0 ≤ i → i ≤ s.size → s.size < i + n → (out.length : Int) ≤ 4 * i → ∃ r, bysL n 12 s i out = some r ∧ ∀ o, r = .ok o → o.length ≤ 4000
  | 0, i, out, h0, h1, h2, h3 => by omega
  | n + 1, i, out, h0, h1, h2, h3 => by
    rw [bysL]
    by_cases hlt : i < (s.size : Int)
    · rw [if_pos hlt]
      by_cases h92 : bt s i = 92
      · have hz : (s.extract (i + 1).toNat s.size).size = s.size - (i + 1).toNat := ext_size s _
        obtain ⟨b0, b1, b2⟩ := esc_bounds (s.extract (i + 1).toNat s.size)
        rw [if_pos h92, esc_f _ (by omega), Option.bind_some]
        by_cases hn : (esc (s.extract (i + 1).toNat s.size)).2 = 0
        · rw [if_pos hn]
          exact ⟨_, rfl, fun o ho => by cases ho⟩
        · rw [if_neg hn, if_pos ⟨b0, by omega, by omega⟩]
          exact bys_total s hs n _ _ (by omega) (by omega) (by omega) (by rw [List.length_append]; omega)
      · rw [if_neg h92, if_pos (by omega)]
        exact bys_total s hs n _ _ (by omega) (by omega) (by omega) (by rw [List.length_append]; simp only [List.length_cons, List.length_nil]; omega)
    · rw [if_neg hlt]
      exact ⟨_, rfl, fun o ho => by injection ho with ho; subst ho; omega⟩
theorem bys_all (s : ByteArray) (hs : s.size ≤ 1000) : ∃ r, bysL (s.size + 1) 12 s 0 [] = some r ∧ ∀ o, r = .ok o → o.length ≤ 4000 :=
  bys_total s hs (s.size + 1) 0 [] (by omega) (by omega) (by omega) (by simp)
theorem rchar_f (c : Int) : grommetref02_Char.f c = some (isChar c) := char_f c
theorem rput_f (c : Int) (h : isChar c = true) : grommetref02_Put.f c = some (enc c) := by
  obtain ⟨c0, c1, c2⟩ := char_range h
  unfold grommetref02_Put.f enc
  simp only [Int.tdiv_eq_ediv_of_nonneg c0, Int.tmod_eq_emod_of_nonneg c0]
  have a1 : wrap64 (c / 64) = c / 64 := w64 _ (by omega) (by omega)
  have a2 : wrap64 (c / 4096) = c / 4096 := w64 _ (by omega) (by omega)
  have a3 : wrap64 (c / 262144) = c / 262144 := w64 _ (by omega) (by omega)
  rw [a1, a2, a3]
  rw [Int.tmod_eq_emod_of_nonneg (show 0 ≤ c / 64 by omega), Int.tmod_eq_emod_of_nonneg (show 0 ≤ c / 4096 by omega)]
  have b (x : Int) (h0 : 0 ≤ x) (h1 : x < 256) : wrap64 x % 256 = x := by rw [w64 _ (by omega) (by omega)]; omega
  by_cases h1 : c < 128
  · rw [if_pos h1, if_pos h1, Int.emod_eq_of_lt c0 (by omega)]
  · rw [if_neg h1, if_neg h1]
    by_cases h2 : c < 2048
    · rw [if_pos h2, if_pos h2, b _ (by omega) (by omega), b _ (by omega) (by omega)]
    · rw [if_neg h2, if_neg h2]
      by_cases h3 : c < 65536
      · rw [if_pos h3, if_pos h3, b _ (by omega) (by omega), b _ (by omega) (by omega), b _ (by omega) (by omega)]
      · rw [if_neg h3, if_neg h3, b _ (by omega) (by omega), b _ (by omega) (by omega), b _ (by omega) (by omega), b _ (by omega) (by omega)]

abbrev fr : ByteArray := ⟨#[116, 110, 114, 34, 39, 92]⟩
abbrev tt : ByteArray := ⟨#[9, 10, 13, 34, 39, 92]⟩
theorem rl0_at (k : Nat) (t : ByteArray) (i : Int) (h0 : 0 ≤ i) (h6 : i < 6) (ht : 0 < t.size) : grommetref11_escape.l0 (k + 1) t fr tt i = if bt t 0 = bt fr i then some ([bt tt i], 1) else grommetref11_escape.l0 k t fr tt (wrap64 (i + 1)) := by
  have e1 : ((fr.size : Nat) : Int) = 6 := rfl
  have e2 : ((tt.size : Nat) : Int) = 6 := rfl
  rw [grommetref11_escape.l0, e1, e2, if_pos h6, if_pos (by omega), if_pos h0, if_pos h6]
/-- Where the search for the end of a number comes to. -/
theorem rl1_at (t : ByteArray) (hs : t.size ≤ 1000000) : ∀ (n i k : Nat), i + n = t.size → ∃ e : Nat, i ≤ e ∧ e ≤ t.size ∧ (e < t.size → t.data.toList[e]? = some 125) ∧ (∀ j, i ≤ j → j < e → t.data.toList[j]? ≠ some 125) ∧ ∃ k', k ≤ k' ∧ k' ≤ k + n ∧ grommetref11_escape.l1 (k + n + 1) t (i : Int) = grommetref11_escape.j3 k' t (e : Int)
  | 0, i, k, hi => by
    refine ⟨i, Nat.le_refl _, by omega, fun h => by omega, fun j a b => by omega, k, Nat.le_refl _, by omega, ?_⟩
    rw [grommetref11_escape.l1, if_neg (by omega)]
  | n + 1, i, k, hi => by
    have hil : i < t.data.toList.length := by rw [← Lib.size_eq]; omega
    have w1 : wrap64 ((i : Int) + 1) = ((i + 1 : Nat) : Int) := by unfold wrap64; omega
    rw [grommetref11_escape.l1, if_pos (by omega), if_pos (by omega), bt_list t i hil]
    by_cases h : t.data.toList[i] = 125
    · rw [if_pos (by rw [h]; rfl)]
      refine ⟨i, Nat.le_refl _, by omega, fun _ => by rw [List.getElem?_eq_getElem hil, h], fun j a b => by omega, k + (n + 1), by omega, by omega, rfl⟩
    · rw [if_neg (show ¬ (((t.data.toList[i]).toNat : Int) = 125) from fun e => h ((u8_int _ 125).1 e)), w1]
      obtain ⟨e, e1, e2, e3, e4, k', k1, k2, e5⟩ := rl1_at t hs n (i + 1) k (by omega)
      refine ⟨e, by omega, e2, e3, ?_, k', k1, by omega, e5⟩
      intro j a b
      by_cases hj : j = i
      · subst hj
        rw [List.getElem?_eq_getElem hil]
        intro hh
        exact h (Option.some.inj hh)
      · exact e4 j (by omega) b
theorem ds_len (b : Int) (s : ByteArray) : ∀ n (i : Int) l, 0 ≤ i → i ≤ s.size → ds n s b i = some l → (l.length : Int) ≤ s.size - i
  | 0, _, _, _, _, h => by cases h
  | n + 1, i, l, h0, h1, h => by
    rw [ds] at h
    split at h
    · split at h
      · cases e : ds n s b (i + 1) with
        | none => rw [e] at h; cases h
        | some t =>
          rw [e] at h
          obtain rfl := Option.some.inj h
          have := ds_len b s n (i + 1) t (by omega) (by omega) e
          rw [List.length_cons]; omega
      · split at h
        · have := ds_len b s n (i + 1) l (by omega) (by omega) h; omega
        · cases h
    · obtain rfl := Option.some.inj h
      simp; omega
theorem rj3_in (t : ByteArray) (hs : t.size ≤ 1000000) (k : Nat) (hk : t.size + 20 ≤ k) (e : Int) (h2 : 2 ≤ e) (he : e < t.size) : grommetref11_escape.j3 k t e = some (uniV e (num16 (t.extract 2 e.toNat))) := by
  obtain ⟨k, rfl⟩ : ∃ j, k = j + 1 := ⟨k - 1, by omega⟩
  have hms : (t.extract 2 e.toNat).size ≤ t.size := by rw [ByteArray.size_extract]; omega
  have hrange := num16_range (t.extract 2 e.toNat)
  rw [grommetref11_escape.j3, if_neg (by omega), if_pos h2, if_pos (by omega)]
  unfold grommetref11_Digits.f grommetref11_value.f
  have e16 : IntKind.u64.wrap 16 = 16 := rfl
  have hdg := rdigits (t.extract 2 e.toNat) 16 (.inr rfl) (by omega) ((t.extract 2 e.toNat).size + 1) 0 [] k (by omega) (by omega) (by omega) (by omega) (by simp)
  rw [e16]
  generalize t.extract 2 e.toNat = m at hms hrange hdg
  cases ed : ds (m.size + 1) m 16 0 with
  | none =>
    have en : num16 m = none := by unfold num16; rw [ed]; split <;> rfl
    have hv := rvalue 16 (.inr rfl) [] (by simp) (by simp) 0 0 0 k (by simp) (by omega) (by omega) (by omega)
    rw [ed] at hdg
    have hdg2 : grommetref11_Digits.l0 k m 16 [] 0 = some ([], false) := hdg
    have hv2 : grommetref11_value.l0 k [] 0 16 0 = some (0, true) := hv
    rw [hdg2, Option.bind_some]
    show (grommetref11_value.l0 k [] 0 16 0).bind _ = _
    rw [hv2, Option.bind_some, en]
    rfl
  | some l =>
    have hl := ds_range 16 m _ _ _ ed
    have hlen := ds_len 16 m _ _ _ (by omega) (by omega) ed
    have hv := rvalue 16 (.inr rfl) l hl (by omega) l.length 0 0 k (by omega) (by omega) (by omega) (by omega)
    rw [List.drop_zero] at hv
    rw [ed] at hdg
    have hv2 : grommetref11_value.l0 k l 0 16 0 = some (valR (vals l 16 0)) := hv
    by_cases hz : m.size = 0
    · have en : num16 m = none := by unfold num16; rw [if_pos hz]
      have hdg2 : grommetref11_Digits.l0 k m 16 [] 0 = some (l, false) := by rw [hdg]; simp [dsR, hz]
      rw [hdg2, Option.bind_some]
      show (grommetref11_value.l0 k l 0 16 0).bind _ = _
      rw [hv2, Option.bind_some, en]
      rfl
    · have en : num16 m = some (vals l 16 0) := by unfold num16; rw [if_neg hz, ed]; rfl
      have hdg2 : grommetref11_Digits.l0 k m 16 [] 0 = some (l, true) := by rw [hdg]; simp only [dsR, List.nil_append]; rw [decide_eq_true (by omega)]
      rw [hdg2, Option.bind_some]
      show (grommetref11_value.l0 k l 0 16 0).bind _ = _
      rw [hv2, Option.bind_some, en]
      cases ev : vals l 16 0 with
      | none => rfl
      | some v =>
        have hv2 := hrange v (by rw [en, ev])
        show (if v > 1114111 then (some (([] : List Int), 0)) else ((grommetref02_Char.f (wrap64 v)).bind fun t209 => (if t209 = true then ((grommetref02_Put.f (wrap64 v)).bind fun t210 => (some (t210, wrap64 (e + 1)))) else (some (([] : List Int), 0))))) = some (if isChar v = true then (enc v, e + 1) else ([], 0))
        by_cases hbig : v > 1114111
        · have : ¬ isChar v = true := fun h => by have := (char_range h).2.1; omega
          rw [if_pos hbig, if_neg this]
        · rw [if_neg hbig, w64 v (by omega) (by omega), rchar_f, Option.bind_some]
          by_cases hc : isChar v = true
          · rw [if_pos hc, rput_f v hc, Option.bind_some, if_pos hc, w64 (e + 1) (by omega) (by omega)]
          · rw [if_neg hc, if_neg hc]
theorem runi_f (t : ByteArray) (hs : t.size ≤ 1000000) (hu : sw t bu = true) (k : Nat) (hk : 2 * t.size + 30 ≤ k) : grommetref11_escape.l1 k t 2 = some (uni t) := by
  obtain ⟨h2, b0, b1⟩ := sw_two t hu
  obtain ⟨e, e1, e2, e3, e4, k', k1, k2, e5⟩ := rl1_at t hs (t.size - 2) 2 (k - (t.size - 2) - 1) (by omega)
  rw [show k - (t.size - 2) - 1 + (t.size - 2) + 1 = k by omega] at e5
  rw [show ((2 : Int)) = ((2 : Nat) : Int) from rfl, e5]
  unfold uni
  rw [if_pos hu]
  by_cases hn : Lib.indexByte t.data.toList 125 < 0
  · rw [if_pos hn]
    have hm : Lib.indexByte t.data.toList 125 = -1 := by have := Lib.indexByte_ge t.data.toList 125; omega
    have hno := Lib.indexByte_none hm
    have : ¬ e < t.size := fun h => hno e (e3 h)
    obtain ⟨k', rfl⟩ : ∃ j, k' = j + 1 := ⟨k' - 1, by omega⟩
    rw [grommetref11_escape.j3, if_pos (by omega)]
  · rw [if_neg hn]
    obtain ⟨g1, g2⟩ := end_ge t hu hn
    obtain ⟨o, ho⟩ := Int.eq_ofNat_of_zero_le (show 0 ≤ Lib.indexByte t.data.toList 125 by omega)
    obtain ⟨s1, s2⟩ := Lib.indexByte_some ho
    have hoe : o = e := by
      rcases Nat.lt_trichotomy o e with h | h | h
      · exact absurd s1 (e4 o (by omega) h)
      · exact h
      · exact absurd (e3 (by omega)) (s2 e h)
    rw [ho] at g1 g2 ⊢
    subst hoe
    exact rj3_in t hs k' (by omega) _ g1 g2
theorem dg117 : dg 117 16 = -1 := by decide
theorem resc_f (t : ByteArray) (ht : t.size ≤ 1000000) (k : Nat) (hk : 2 * t.size + 40 ≤ k) : grommetref11_escape.f k t = some (esc t) := by
  unfold grommetref11_escape.f esc
  by_cases h0 : t.size = 0
  · rw [if_pos (by omega), if_pos h0]
  · have hz : 0 < t.size := by omega
    rw [if_neg (by omega), if_neg h0]
    obtain ⟨k, rfl⟩ : ∃ j, k = j + 8 := ⟨k - 8, by omega⟩
    have w (i : Nat) (hi : i < 6) : wrap64 ((i : Int) + 1) = ((i + 1 : Nat) : Int) := by unfold wrap64; omega
    rw [rl0_at (k + 7) t 0 (by decide) (by decide) hz, show wrap64 (0 + 1) = 1 by kernel_rfl]
    rw [show bt fr 0 = 116 by kernel_rfl, show bt tt 0 = 9 by kernel_rfl]
    by_cases c1 : bt t 0 = 116
    · rw [if_pos c1, if_pos c1]
    rw [if_neg c1, if_neg c1, rl0_at (k + 6) t 1 (by decide) (by decide) hz, show wrap64 (1 + 1) = 2 by kernel_rfl, show bt fr 1 = 110 by kernel_rfl, show bt tt 1 = 10 by kernel_rfl]
    by_cases c2 : bt t 0 = 110
    · rw [if_pos c2, if_pos c2]
    rw [if_neg c2, if_neg c2, rl0_at (k + 5) t 2 (by decide) (by decide) hz, show wrap64 (2 + 1) = 3 by kernel_rfl, show bt fr 2 = 114 by kernel_rfl, show bt tt 2 = 13 by kernel_rfl]
    by_cases c3 : bt t 0 = 114
    · rw [if_pos c3, if_pos c3]
    rw [if_neg c3, if_neg c3, rl0_at (k + 4) t 3 (by decide) (by decide) hz, show wrap64 (3 + 1) = 4 by kernel_rfl, show bt fr 3 = 34 by kernel_rfl, show bt tt 3 = 34 by kernel_rfl]
    by_cases c4 : bt t 0 = 34
    · rw [if_pos c4, if_pos (.inl c4), c4]
    rw [if_neg c4, rl0_at (k + 3) t 4 (by decide) (by decide) hz, show wrap64 (4 + 1) = 5 by kernel_rfl, show bt fr 4 = 39 by kernel_rfl, show bt tt 4 = 39 by kernel_rfl]
    by_cases c5 : bt t 0 = 39
    · rw [if_pos c5, if_pos (.inr (.inl c5)), c5]
    rw [if_neg c5, rl0_at (k + 2) t 5 (by decide) (by decide) hz, show wrap64 (5 + 1) = 6 by kernel_rfl, show bt fr 5 = 92 by kernel_rfl, show bt tt 5 = 92 by kernel_rfl]
    by_cases c6 : bt t 0 = 92
    · rw [if_pos c6, if_pos (.inr (.inr c6)), c6]
    rw [if_neg c6, if_neg (by rintro (h | h | h); exact c4 h; exact c5 h; exact c6 h)]
    have r0 := dg_range (bt t 0) 16
    have r1 := dg_range (bt t 1) 16
    have q0 := rdigit (bt t 0) 16 (.inr rfl) (bt_range t 0).1 (bt_range t 0).2
    have q1 := rdigit (bt t 1) 16 (.inr rfl) (bt_range t 1).1 (bt_range t 1).2
    have e6 : ((fr.size : Nat) : Int) = 6 := rfl
    have hstart (j : Nat) (hj : 2 * t.size + 30 ≤ j) : grommetref11_escape.j1 (j + 1) t false = some (if sw t bu = true then uni t else ([], 0)) := by
      rw [grommetref11_escape.j1, if_neg Bool.false_ne_true, starts_f, Option.bind_some]
      by_cases hu : sw t bu = true
      · rw [if_pos hu, if_pos hu, runi_f t ht hu j hj]
      · rw [if_neg hu, if_neg hu]
    have huni : uni t = if sw t bu = true then uni t else ([], 0) := by
      by_cases hu : sw t bu = true
      · rw [if_pos hu]
      · rw [if_neg hu]; unfold uni; rw [if_neg hu]
    have hno (h : bt t 0 ≠ 117) : (if sw t bu = true then uni t else ([], 0)) = (([] : List Int), (0 : Int)) := by
      rw [if_neg]
      intro hu
      obtain ⟨g2, b0, b1⟩ := sw_two t hu
      have hl : 0 < t.data.toList.length := by rw [← Lib.size_eq]; omega
      apply h
      rw [show (0 : Int) = ((0 : Nat) : Int) from rfl, bt_list t 0 hl]
      rw [List.getElem?_eq_getElem hl] at b0
      rw [Option.some.inj b0]; rfl
    rw [show k + 2 = (k + 1) + 1 by omega, grommetref11_escape.l0, if_neg (by rw [e6]; decide)]
    by_cases h8 : t.size > 1
    · rw [if_pos (show (t.size : Int) > 1 by omega), if_pos (show 0 < (t.size : Int) by omega), q0 (k + 1) (by omega), Option.bind_some]
      by_cases h9 : dg (bt t 0) 16 ≥ 0
      · have h117 : bt t 0 ≠ 117 := by
          intro h
          rw [h, dg117] at h9
          omega
        rw [if_pos h9, if_pos (show 1 < (t.size : Int) by omega), q1 (k + 1) (by omega), Option.bind_some, if_neg h117]
        by_cases h10 : dg (bt t 1) 16 ≥ 0
        · rw [decide_eq_true h10, grommetref11_escape.j1, if_pos rfl, if_pos (show 0 < (t.size : Int) by omega), q0 k (by omega), Option.bind_some, if_pos (show 1 < (t.size : Int) by omega), q1 k (by omega), Option.bind_some, if_pos ⟨h8, h9, h10⟩, w64 (dg (bt t 0) 16 * 16) (by omega) (by omega), w64 _ (by omega) (by omega), Int.emod_eq_of_lt (by omega) (by omega)]
        · rw [decide_eq_false h10, hstart k (by omega), hno h117, if_neg (fun h => h10 h.2.2)]
      · rw [if_neg h9, hstart k (by omega)]
        by_cases h117 : bt t 0 = 117
        · rw [if_pos h117, ← huni]
        · rw [if_neg h117, hno h117, if_neg (fun h => h9 h.2.1)]
    · rw [if_neg (show ¬ (t.size : Int) > 1 by omega), hstart k (by omega)]
      by_cases h117 : bt t 0 = 117
      · rw [if_pos h117, ← huni]
      · rw [if_neg h117, hno h117, if_neg (fun h => h8 h.1)]
def resR : Except Int (List Int) → List Int × Int
  | .ok o => (o, -1)
  | .error a => ([], a)
theorem rbys_f (s : ByteArray) (hs : s.size ≤ 1000) : ∀ (n : Nat) (i : Int) (out : List Int) (k : Nat), 0 ≤ i → i ≤ s.size → s.size < i + n → (out.length : Int) ≤ 4 * i → n + 3000 ≤ k → ∀ r, bysL n 12 s i out = some r → grommetref11_Bytes.l0 k s out i = some (resR r) ∧ ∀ a, r = .error a → 0 ≤ a
  | 0, i, out, k, h0, h1, h2, h3, hk, r, h => by cases h
  | n + 1, i, out, k, h0, h1, h2, h3, hk, r, h => by
    obtain ⟨k, rfl⟩ : ∃ j, k = j + 1 := ⟨k - 1, by omega⟩
    rw [bysL] at h
    rw [grommetref11_Bytes.l0]
    by_cases hlt : i < (s.size : Int)
    · have w1 : wrap64 (i + 1) = i + 1 := w64 _ (by omega) (by omega)
      rw [if_pos hlt] at h
      rw [if_pos hlt, if_pos h0, w1]
      by_cases h92 : bt s i = 92
      · have hz : (s.extract (i + 1).toNat s.size).size = s.size - (i + 1).toNat := ext_size s _
        obtain ⟨b0, b1, b2⟩ := esc_bounds (s.extract (i + 1).toNat s.size)
        rw [if_pos h92, esc_f _ (by omega), Option.bind_some] at h
        rw [if_pos h92, if_pos (by omega), if_pos (by omega), resc_f _ (by omega) k (by omega), Option.bind_some]
        by_cases hn : (esc (s.extract (i + 1).toNat s.size)).2 = 0
        · rw [if_pos hn] at h
          obtain rfl := Option.some.inj h
          rw [if_pos hn]
          exact ⟨rfl, fun a ha => by injection ha with ha; omega⟩
        · rw [if_neg hn, if_pos ⟨b0, by omega, by omega⟩] at h
          rw [if_neg hn, if_pos (by omega), w64 _ (by omega) (by omega), show i + 1 + (esc (s.extract (i + 1).toNat s.size)).2 = i + (esc (s.extract (i + 1).toNat s.size)).2 + 1 by omega]
          exact rbys_f s hs n _ _ k (by omega) (by omega) (by omega) (by rw [List.length_append]; omega) (by omega) r h
      · rw [if_neg h92, if_pos (by omega)] at h
        rw [if_neg h92, if_pos (by omega)]
        exact rbys_f s hs n _ _ k (by omega) (by omega) (by omega) (by rw [List.length_append]; simp only [List.length_cons, List.length_nil]; omega) (by omega) r h
    · rw [if_neg hlt] at h
      obtain rfl := Option.some.inj h
      rw [if_neg hlt]
      exact ⟨rfl, fun a ha => by cases ha⟩
theorem rbys_all (s : ByteArray) (hs : s.size ≤ 1000) (r : Except Int (List Int)) (h : bysL (s.size + 1) 12 s 0 [] = some r) : grommetref11_Bytes.f 5000 s = some (resR r) ∧ ∀ a, r = .error a → 0 ≤ a :=
  rbys_f s hs (s.size + 1) 0 [] 5000 (by omega) (by omega) (by omega) (by simp) (by omega) r h
end Go.Proofs.YtjenbegobpfclaaDoor.Tp
