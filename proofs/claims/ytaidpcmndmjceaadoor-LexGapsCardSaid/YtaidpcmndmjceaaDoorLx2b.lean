/- Plain facts: what the document's Scan answers, over a text's bytes. -/
import Derived.Test.YtaidpcmndmjceaaDoorLx2
set_option linter.unusedVariables false
set_option linter.unusedSimpArgs false
namespace Go.Proofs.YtaidpcmndmjceaaDoor.Lx
open Go.RowKit Go.Proofs.YtaidpcmndmjceaaDoorW.PrintWords Go.Proofs.YtaidpcmndmjceaaDoorW.PrintLast Go.Proofs.YtaidpcmndmjceaaDoorW.PrintMore Go.Proofs.YtaidpcmndmjceaaDoor.RLexScans Go.Proofs.YtaidpcmndmjceaaDoor.Man
/-- The atom's loop, and what stands behind it. -/
theorem ratom_l1 (s : ByteArray) (hs : s.size ≤ 100000) (out : List S36) (i : Nat) (z0 z1 : Int) (z2 : ByteArray) : ∀ (m e k : Nat), s.size ≤ e + m → i ≤ e → e ≤ s.size → m + 40 ≤ k →
    ∃ k', k ≤ k' + m + 1 ∧ grommetref09_Scan.l1 k s out (i : Int) (e : Int) z0 z1 z2 = grommetref09_Scan.j2 k' s out (i : Int) ((e + (((bytesOf s).drop e).takeWhile atomB).length : Nat) : Int) z0 z1 z2 := by
  intro m
  induction m with
  | zero =>
    intro e k h1 h2 h3 h4
    obtain ⟨k, rfl⟩ : ∃ j, k = j + 1 := ⟨k - 1, by omega⟩
    have hM : (((bytesOf s).drop e).takeWhile atomB).length = 0 := by rw [drop_end s e (by omega)]; rfl
    exact ⟨k, by omega, by rw [grommetref09_Scan.l1, if_neg (by omega), hM, Nat.add_zero]⟩
  | succ m ih =>
    intro e k h1 h2 h3 h4
    obtain ⟨k, rfl⟩ : ∃ j, k = j + 1 := ⟨k - 1, by omega⟩
    by_cases hlt : e < s.size
    · have hr := bt_range s (e : Int)
      by_cases c : atomB (bt s (e : Int)) = true
      · obtain ⟨k', hk', he⟩ := ih (e + 1) k (by omega) (by omega) (by omega) (by omega)
        refine ⟨k', by omega, ?_⟩
        rw [grommetref09_Scan.l1, if_pos (by omega), if_pos (by omega), is_f _ hr.1 (by omega) k (by omega), Option.bind_some, c, if_pos rfl, w64i _ (by omega) (by omega), show ((e : Int) + 1) = ((e + 1 : Nat) : Int) by omega, he, drop_bt s e hlt, List.takeWhile_cons, if_pos c, List.length_cons]
        rw [show e + 1 + (((bytesOf s).drop (e + 1)).takeWhile atomB).length = e + ((((bytesOf s).drop (e + 1)).takeWhile atomB).length + 1) by omega]
      · refine ⟨k, by omega, ?_⟩
        have c' : atomB (bt s (e : Int)) = false := by simpa using c
        rw [grommetref09_Scan.l1, if_pos (by omega), if_pos (by omega), is_f _ hr.1 (by omega) k (by omega), Option.bind_some, c', if_neg (by decide), drop_bt s e hlt, List.takeWhile_cons, if_neg c, List.length_nil, Nat.add_zero]
    · have hM : (((bytesOf s).drop e).takeWhile atomB).length = 0 := by rw [drop_end s e (by omega)]; rfl
      exact ⟨k, by omega, by rw [grommetref09_Scan.l1, if_neg (by omega), hM, Nat.add_zero]⟩
theorem tn1 (i n : Nat) (h : 1 ≤ n) : (((i + 1 + n : Nat) : Int) - 1).toNat - ((i : Int) + 1).toNat = n - 1 := by omega
theorem tn2 (i : Nat) : ((i : Int) + 1).toNat = i + 1 := by omega
theorem w64n (n : Nat) (h0 : 1 ≤ n) (h1 : n < 1000000) : wrap64 ((n : Int) - 1) = (n : Int) - 1 := by unfold wrap64; omega
theorem w64p (n : Nat) (h1 : n < 1000000) : wrap64 ((n : Int) + 1) = (n : Int) + 1 := by unfold wrap64; omega
set_option maxHeartbeats 2000000 in
theorem rscan_l0 (s : ByteArray) (hs : s.size ≤ 100000) : ∀ (m i f k : Nat) (out : List S36), s.size ≤ i + m → i ≤ s.size → m < f → out.length ≤ 4096 → (m + 1) * (3 * s.size + 100) ≤ k →
    grommetref09_Scan.l0 k s out (i : Int) = some (docV (scL f ((bytesOf s).drop i) i out)) := by
  intro m
  induction m using Nat.strongRecOn with
  | ind m ih =>
    intro i f k out h1 h2 h3 ho hk
    obtain ⟨f, rfl⟩ : ∃ j, f = j + 1 := ⟨f - 1, by omega⟩
    have hk0 : 3 * s.size + 100 ≤ k := Nat.le_trans (Nat.le_mul_of_pos_left _ (by omega)) hk
    obtain ⟨k, rfl⟩ : ∃ j, k = j + 1 := ⟨k - 1, by omega⟩
    rw [grommetref09_Scan.l0, scL]
    by_cases hlt : i < s.size
    · have hne : ¬ (bytesOf s).drop i = [] := by rw [drop_bt s i hlt]; simp
      have next : ∀ (n k' : Nat) (out' : List S36), 1 ≤ n → i + n ≤ s.size → out'.length ≤ 4096 → k ≤ k' + s.size + 2 → grommetref09_Scan.l0 k' s out' ((i + n : Nat) : Int) = some (docV (scL f (((bytesOf s).drop i).drop n) (i + n) out')) := by
        intro n k' out' hn hin ho' hk'
        rw [List.drop_drop]
        refine ih (m - n) (by omega) (i + n) f k' out' (by omega) hin (by omega) ho' ?_
        have e1 : (m + 1) * (3 * s.size + 100) = (m - n + 1) * (3 * s.size + 100) + n * (3 * s.size + 100) := by rw [← Nat.add_mul]; congr 1; omega
        have e2 : 3 * s.size + 100 ≤ n * (3 * s.size + 100) := Nat.le_mul_of_pos_left _ (by omega)
        omega
      clear hk ih
      rw [if_pos (by omega), if_neg hne, gap_f s hs i k hlt (by omega), Option.bind_some]
      cases hg : gapN ((bytesOf s).drop i) with
      | none => rw [if_pos (show pos i none < 0 from (by show (-1 : Int) < 0; omega))]; rfl
      | some g =>
        have hgl := gapN_len hg
        rw [List.length_drop, bytesOf_length] at hgl
        rw [if_neg (show ¬ pos i (some g) < 0 by simp only [pos]; omega)]
        match g, hgl with
        | g + 1, hgl =>
          rw [if_pos (show pos i (some (g + 1)) > (i : Int) by simp only [pos]; omega)]
          exact next (g + 1) k out (by omega) (by omega) ho (by omega)
        | 0, hgl =>
          rw [if_neg (show ¬ pos i (some 0) > (i : Int) by simp only [pos]; omega), if_pos (by omega)]
          simp only
          have fin : ∀ (kd : Int) (t : List Int) (n k' : Nat), tokN ((bytesOf s).drop i) = some (kd, t, n) → k ≤ k' + s.size + 2 →
              (if (out.length : Int) ≥ 4096 then (some (([] : List (S36)), (7 : Int), (i : Int))) else (if out.length < 4398046511104 then (grommetref09_Scan.l0 k' s (out ++ [(⟨kd, (i : Int), strOfNums t⟩ : S36)]) ((i + n : Nat) : Int)) else (none))) =
              some (docV (match tokN ((bytesOf s).drop i) with
                | none => .error (2, i)
                | some (k, t, n) => if out.length = 4096 then .error (7, i) else scL f (((bytesOf s).drop i).drop n) (i + n) (out ++ [⟨k, (i : Int), strOfNums t⟩]))) := by
            intro kd t n k' ht hk'
            have htl := tokN_len ht
            rw [List.length_drop, bytesOf_length] at htl
            rw [ht]
            simp only
            by_cases c : out.length = 4096
            · rw [if_pos (by omega), if_pos c]; rfl
            · rw [if_neg (by omega), if_neg c, if_pos (by omega)]
              exact next n k' _ htl.1 (by omega) (by simp; omega) hk'
          rw [drop_bt s i hlt] at fin ⊢
          by_cases c1 : bt s (i : Int) = 40
          · rw [if_pos c1, w64i _ (by omega) (by omega)]
            exact fin 1 [] 1 k (by rw [tokN, if_pos c1]) (by omega)
          · rw [if_neg c1]
            by_cases c2 : bt s (i : Int) = 41
            · rw [if_pos c2, w64i _ (by omega) (by omega)]
              exact fin 2 [] 1 k (by rw [tokN, if_neg c1, if_pos c2]) (by omega)
            · rw [if_neg c2]
              by_cases c3 : bt s (i : Int) = 34
              · rw [if_pos c3, text_f s hs i k hlt (by omega), Option.bind_some]
                cases hq : qt ((bytesOf s).drop (i + 1)) with
                | none =>
                  rw [if_pos (show pos (i + 1) none < 0 from (by show (-1 : Int) < 0; omega))]
                  have : tokN (bt s (i : Int) :: (bytesOf s).drop (i + 1)) = none := by rw [tokN, if_neg c1, if_neg c2, if_pos c3, hq]; rfl
                  rw [this]; rfl
                | some n =>
                  have hp := qt_pos _ _ hq
                  rw [List.length_drop, bytesOf_length] at hp
                  have hw := w64n (i + 1 + n) (by omega) (by omega)
                  have hw1 := w64p i (by omega)
                  simp only [pos, hw, hw1]
                  clear hw hw1
                  have z1 : ¬ ((i + 1 + n : Nat) : Int) < 0 := by omega
                  have z2 : (0 : Int) ≤ (i : Int) + 1 := by omega
                  have z3 : (i : Int) + 1 ≤ ((i + 1 + n : Nat) : Int) - 1 := by omega
                  have z4 : ((i + 1 + n : Nat) : Int) - 1 ≤ (s.size : Int) := by omega
                  have z5 : s.extract ((i : Int) + 1).toNat (((i + 1 + n : Nat) : Int) - 1).toNat = strOfNums (((bytesOf s).drop (i + 1)).take (n - 1)) := by rw [ext_str, tn1 i n hp.1, tn2 i]
                  have z6 : ((i + 1 + n : Nat) : Int) = ((i + (n + 1) : Nat) : Int) := by omega
                  rw [if_neg z1, if_pos z2, if_pos z3, if_pos z4, z5, z6]
                  exact fin 3 _ (n + 1) k (by rw [tokN, if_neg c1, if_neg c2, if_pos c3, hq]; rfl) (by omega)
              · rw [if_neg c3]
                obtain ⟨k', hk', he⟩ := ratom_l1 s hs out i 0 (i : Int) ⟨#[]⟩ (s.size - i) i k (by omega) (Nat.le_refl _) (by omega) (by omega)
                rw [he, drop_bt s i hlt]
                obtain ⟨k', rfl⟩ : ∃ j, k' = j + 1 := ⟨k' - 1, by omega⟩
                rw [grommetref09_Scan.j2]
                by_cases c4 : atomB (bt s (i : Int)) = true
                · have hpos : 0 < ((bt s (i : Int) :: (bytesOf s).drop (i + 1)).takeWhile atomB).length := by rw [List.takeWhile_cons, if_pos c4]; simp
                  have hle := tw_len atomB (bt s (i : Int) :: (bytesOf s).drop (i + 1))
                  simp only [List.length_cons, List.length_drop, bytesOf_length] at hle
                  have ht : tokN (bt s (i : Int) :: (bytesOf s).drop (i + 1)) = some (4, (bt s (i : Int) :: (bytesOf s).drop (i + 1)).takeWhile atomB, ((bt s (i : Int) :: (bytesOf s).drop (i + 1)).takeWhile atomB).length) := by rw [tokN, if_neg c1, if_neg c2, if_neg c3, if_pos c4]
                  have hext : s.extract ((i : Int)).toNat ((i + ((bt s (i : Int) :: (bytesOf s).drop (i + 1)).takeWhile atomB).length : Nat) : Int).toNat = strOfNums ((bt s (i : Int) :: (bytesOf s).drop (i + 1)).takeWhile atomB) := by
                    rw [ext_str, Int.toNat_natCast, Int.toNat_natCast, Nat.add_sub_cancel_left, drop_bt s i hlt, take_tw]
                  rw [if_neg (by omega), if_pos (by omega), if_pos (by omega), if_pos (by omega), hext]
                  exact fin 4 _ _ k' ht (by omega)
                · have hM : ((bt s (i : Int) :: (bytesOf s).drop (i + 1)).takeWhile atomB).length = 0 := by rw [List.takeWhile_cons, if_neg c4]; rfl
                  have ht : tokN (bt s (i : Int) :: (bytesOf s).drop (i + 1)) = none := by rw [tokN, if_neg c1, if_neg c2, if_neg c3, if_neg c4]
                  rw [if_pos (by omega), ht]
                  rfl
    · rw [if_neg (by omega), if_pos (drop_end s i (by omega))]
      rfl
theorem rscan_f (s : ByteArray) (hs : s.size ≤ 100000) : grommetref09_Scan.f ((s.size + 1) * (3 * s.size + 100)) s = some (docV (scan (bytesOf s))) := by
  unfold grommetref09_Scan.f scan
  have k := rscan_l0 s hs s.size 0 ((bytesOf s).length + 1) ((s.size + 1) * (3 * s.size + 100)) [] (by omega) (by omega) (by rw [bytesOf_length]; omega) (by simp) (Nat.le_refl _)
  rw [List.drop_zero] at k
  exact k
end Go.Proofs.YtaidpcmndmjceaaDoor.Lx
