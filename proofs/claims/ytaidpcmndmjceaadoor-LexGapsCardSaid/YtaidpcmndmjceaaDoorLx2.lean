/- Plain facts: what the document's gap, text, is and Scan answer, over a text's bytes. -/
import Derived.Test.YtaidpcmndmjceaaDoorLx1
import Derived.Test.YtaidpcmndmjceaaDoorRLexScansx5
set_option linter.unusedVariables false
set_option linter.unusedSimpArgs false
namespace Go.Proofs.YtaidpcmndmjceaaDoor.Lx
open Go.RowKit Go.Proofs.YtaidpcmndmjceaaDoorW.PrintWords Go.Proofs.YtaidpcmndmjceaaDoorW.PrintLast Go.Proofs.YtaidpcmndmjceaaDoorW.PrintMore Go.Proofs.YtaidpcmndmjceaaDoor.RLexScans Go.Proofs.YtaidpcmndmjceaaDoor.Man
attribute [local instance 10] Classical.propDecidable
theorem two_f (s : ByteArray) (hs : s.size ≤ 100000) (i : Nat) (hi : i ≤ s.size) (a b : Int) : grommetref09_two.f s (i : Int) a b = some (decide (∃ r, (bytesOf s).drop i = a :: b :: r)) := by
  unfold grommetref09_two.f
  rw [w64i _ (by omega) (by omega)]
  rcases Nat.lt_or_ge (i + 1) s.size with q | q
  · have hd : (bytesOf s).drop i = bt s (i : Int) :: bt s ((i : Int) + 1) :: (bytesOf s).drop (i + 2) := by rw [drop_bt s i (by omega), drop_bt s (i + 1) q, show ((i : Int) + 1) = ((i + 1 : Nat) : Int) by omega]
    rw [if_pos (by omega), if_pos (by omega), if_pos (by omega), hd]
    have hx : (∃ r, bt s (i : Int) :: bt s ((i : Int) + 1) :: (bytesOf s).drop (i + 2) = a :: b :: r) ↔ (bt s (i : Int) = a ∧ bt s ((i : Int) + 1) = b) := by
      constructor
      · rintro ⟨r, h⟩; injection h with h1 h; injection h with h2 h; exact ⟨h1, h2⟩
      · rintro ⟨h1, h2⟩; exact ⟨_, by rw [h1, h2]⟩
    by_cases c : bt s (i : Int) = a
    · rw [if_pos c, if_pos (by omega)]
      congr 1
      rw [Bool.eq_iff_iff, beq_iff_eq, decide_eq_true_iff, hx]
      exact ⟨fun h => ⟨c, h⟩, fun h => h.2⟩
    · rw [if_neg c]
      congr 1
      symm
      rw [decide_eq_false_iff_not, hx]
      exact fun h => c h.1
  · rw [if_neg (by omega)]
    congr 1
    symm
    rw [decide_eq_false_iff_not]
    rintro ⟨r, h⟩
    have k := congrArg List.length h
    rw [List.length_drop, bytesOf_length] at k
    simp only [List.length_cons] at k
    omega
theorem gline_l0 (s : ByteArray) (hs : s.size ≤ 100000) : ∀ (m i k : Nat), s.size ≤ i + m → i ≤ s.size → m < k → grommetref09_gap.l0 k s (i : Int) = some ((i + line ((bytesOf s).drop i) : Nat) : Int) := by
  intro m
  induction m with
  | zero =>
    intro i k h1 h2 h3
    obtain ⟨k, rfl⟩ : ∃ j, k = j + 1 := ⟨k - 1, by omega⟩
    rw [grommetref09_gap.l0, if_neg (by omega), drop_end s i (by omega)]
    rfl
  | succ m ih =>
    intro i k h1 h2 h3
    obtain ⟨k, rfl⟩ : ∃ j, k = j + 1 := ⟨k - 1, by omega⟩
    rw [grommetref09_gap.l0]
    by_cases hlt : i < s.size
    · rw [if_pos (by omega), if_pos (by omega), w64i _ (by omega) (by omega), drop_bt s i hlt, line]
      by_cases c : bt s (i : Int) = 10
      · rw [if_pos c, if_pos c]; rfl
      · rw [if_neg c, if_neg c, show ((i : Int) + 1) = ((i + 1 : Nat) : Int) by omega, ih (i + 1) k (by omega) (by omega) (by omega)]
        congr 1; omega
    · rw [if_neg (by omega), drop_end s i (by omega)]; rfl
theorem cm_two (d : Nat) (l : List Int) (hd : 1 ≤ d) : cm d l = if (∃ r, l = 40 :: 59 :: r) then (cm (d + 1) (l.drop 2)).map (· + 2) else if (∃ r, l = 59 :: 41 :: r) then (if d = 1 then some 2 else (cm (d - 1) (l.drop 2)).map (· + 2)) else if 2 ≤ l.length then (cm d (l.drop 1)).map (· + 1) else none := by
  match l with
  | [] => rw [if_neg (by rintro ⟨r, h⟩; cases h), if_neg (by rintro ⟨r, h⟩; cases h), if_neg (by simp)]; rfl
  | [x] => rw [if_neg (by rintro ⟨r, h⟩; cases h), if_neg (by rintro ⟨r, h⟩; cases h), if_neg (by simp)]; rfl
  | x :: y :: r =>
    have h1 : (∃ r', x :: y :: r = 40 :: 59 :: r') ↔ (x = 40 ∧ y = 59) := ⟨by rintro ⟨r', h⟩; injection h with h1 h; injection h with h2 h; exact ⟨h1, h2⟩, by rintro ⟨h1, h2⟩; exact ⟨r, by rw [h1, h2]⟩⟩
    have h2 : (∃ r', x :: y :: r = 59 :: 41 :: r') ↔ (x = 59 ∧ y = 41) := ⟨by rintro ⟨r', h⟩; injection h with h1 h; injection h with h2 h; exact ⟨h1, h2⟩, by rintro ⟨h1, h2⟩; exact ⟨r, by rw [h1, h2]⟩⟩
    rw [cm]
    by_cases c1 : x = 40 ∧ y = 59
    · rw [if_pos c1, if_pos (h1.2 c1)]; rfl
    · rw [if_neg c1, if_neg (fun h => c1 (h1.1 h))]
      by_cases c2 : x = 59 ∧ y = 41
      · rw [if_pos c2, if_pos (h2.2 c2)]
        by_cases c3 : d = 1
        · rw [if_pos (by omega), if_pos c3]
        · rw [if_neg (by omega), if_neg c3]; rfl
      · rw [if_neg c2, if_neg (fun h => c2 (h2.1 h)), if_pos (by simp)]; rfl
theorem gblock_l1 (s : ByteArray) (hs : s.size ≤ 100000) : ∀ (m i k d : Nat), s.size ≤ i + m → i ≤ s.size → 1 ≤ d → d + (s.size - i) ≤ 200000 → m < k → grommetref09_gap.l1 k s (i : Int) (d : Int) = some (pos i (cm d ((bytesOf s).drop i))) := by
  intro m
  induction m using Nat.strongRecOn with
  | ind m ih =>
    intro i k d h1 h2 h3 h4 h5
    obtain ⟨k, rfl⟩ : ∃ j, k = j + 1 := ⟨k - 1, by omega⟩
    rw [grommetref09_gap.l1, two_f s hs i h2, two_f s hs i h2, w64i ((i : Int) + 1) (by omega) (by omega), w64i ((i : Int) + 2) (by omega) (by omega), w64i ((d : Int) + 1) (by omega) (by omega), w64i ((d : Int) - 1) (by omega) (by omega), cm_two d _ h3]
    have hlen : ((bytesOf s).drop i).length = s.size - i := by rw [List.length_drop, bytesOf_length]
    by_cases hlt : i < s.size
    · rw [if_pos (by omega), Option.bind_some, Option.bind_some]
      by_cases c1 : ∃ r, (bytesOf s).drop i = 40 :: 59 :: r
      · have hl2 : 2 ≤ s.size - i := by obtain ⟨r, hr⟩ := c1; rw [hr] at hlen; simp only [List.length_cons] at hlen; omega
        rw [if_pos (decide_eq_true c1), if_pos c1, show ((i : Int) + 2) = ((i + 2 : Nat) : Int) by omega, show ((d : Int) + 1) = ((d + 1 : Nat) : Int) by omega, ih (m - 2) (by omega) (i + 2) k (d + 1) (by omega) (by omega) (by omega) (by omega) (by omega), List.drop_drop]
        cases cm (d + 1) ((bytesOf s).drop (i + 2)) with
        | none => rfl
        | some n => simp only [pos, Option.map_some]; congr 1; omega
      · rw [if_neg (by simpa using c1), if_neg c1]
        by_cases c2 : ∃ r, (bytesOf s).drop i = 59 :: 41 :: r
        · have hl2 : 2 ≤ s.size - i := by obtain ⟨r, hr⟩ := c2; rw [hr] at hlen; simp only [List.length_cons] at hlen; omega
          rw [if_pos (decide_eq_true c2), if_pos c2]
          by_cases c3 : d = 1
          · rw [if_pos (by omega), if_pos c3]; rfl
          · rw [if_neg (by omega), if_neg c3, show ((i : Int) + 2) = ((i + 2 : Nat) : Int) by omega, show ((d : Int) - 1) = ((d - 1 : Nat) : Int) by omega, ih (m - 2) (by omega) (i + 2) k (d - 1) (by omega) (by omega) (by omega) (by omega) (by omega), List.drop_drop]
            cases cm (d - 1) ((bytesOf s).drop (i + 2)) with
            | none => rfl
            | some n => simp only [pos, Option.map_some]; congr 1; omega
        · rw [if_neg (by simpa using c2), if_neg c2, show ((i : Int) + 1) = ((i + 1 : Nat) : Int) by omega, ih (m - 1) (by omega) (i + 1) k d (by omega) (by omega) (by omega) (by omega) (by omega), List.drop_drop]
          by_cases c3 : 2 ≤ ((bytesOf s).drop i).length
          · rw [if_pos c3]
            cases cm d ((bytesOf s).drop (i + 1)) with
            | none => rfl
            | some n => simp only [pos, Option.map_some]; congr 1; omega
          · rw [if_neg c3, drop_end s (i + 1) (by omega)]
            rfl
    · rw [if_neg (by omega), drop_end s i (by omega)]
      rw [if_neg (by rintro ⟨r, h⟩; cases h), if_neg (by rintro ⟨r, h⟩; cases h), if_neg (by simp)]
      rfl
theorem gap_f (s : ByteArray) (hs : s.size ≤ 100000) (i k : Nat) (hi : i < s.size) (hk : s.size + 4 ≤ k) : grommetref09_gap.f k s (i : Int) = some (pos i (gapN ((bytesOf s).drop i))) := by
  obtain ⟨k, rfl⟩ : ∃ j, k = j + 1 := ⟨k - 1, by omega⟩
  have j0 : ∀ b : Bool, (b = true ↔ blankB (bt s (i : Int)) = true) → grommetref09_gap.j0 (k + 1) s (i : Int) b = some (pos i (gapN ((bytesOf s).drop i))) := by
    intro b hb
    rw [grommetref09_gap.j0]
    by_cases c0 : blankB (bt s (i : Int)) = true
    · rw [if_pos (hb.2 c0), w64i _ (by omega) (by omega), drop_bt s i hi]
      have : gapN (bt s (i : Int) :: (bytesOf s).drop (i + 1)) = some 1 := by
        cases (bytesOf s).drop (i + 1) with
        | nil => rw [gapN, if_pos c0]
        | cons y r => rw [gapN, if_pos c0]
      rw [this]
      rfl
    · rw [if_neg (fun h => c0 (hb.1 h)), two_f s hs i (by omega), two_f s hs i (by omega), Option.bind_some, Option.bind_some]
      by_cases c1 : ∃ r, (bytesOf s).drop i = 59 :: 59 :: r
      · rw [if_pos (decide_eq_true c1), gline_l0 s hs (s.size - i) i k (by omega) (by omega) (by omega)]
        obtain ⟨r, hr⟩ := c1
        rw [hr, gapN, if_neg (by decide), if_pos ⟨rfl, rfl⟩]
        rfl
      · rw [if_neg (by simpa using c1)]
        by_cases c2 : ∃ r, (bytesOf s).drop i = 40 :: 59 :: r
        · rw [if_pos (decide_eq_true c2)]
          obtain ⟨r, hr⟩ := c2
          obtain ⟨k, rfl⟩ : ∃ j, k = j + 1 := ⟨k - 1, by omega⟩
          have hlen := congrArg List.length hr
          rw [List.length_drop, bytesOf_length] at hlen
          simp only [List.length_cons] at hlen
          have hd2 : (bytesOf s).drop (i + 2) = r := by rw [← List.drop_drop, hr]; rfl
          rw [grommetref09_gap.l1, if_pos (by omega), two_f s hs i (by omega), two_f s hs i (by omega), Option.bind_some, Option.bind_some, if_pos (decide_eq_true ⟨r, hr⟩), w64i ((i : Int) + 2) (by omega) (by omega), w64i ((0 : Int) + 1) (by omega) (by omega)]
          have g := gblock_l1 s hs (s.size - (i + 2)) (i + 2) k 1 (by omega) (by omega) (by omega) (by omega) (by omega)
          rw [show ((i : Int) + 2) = ((i + 2 : Nat) : Int) by omega, show ((0 : Int) + 1) = ((1 : Nat) : Int) by omega, g, hd2, hr, gapN, if_neg (by decide), if_neg (by decide), if_pos ⟨rfl, rfl⟩]
          cases cm 1 r with
          | none => rfl
          | some n => simp only [pos, Option.map_some]; congr 1; omega
        · rw [if_neg (by simpa using c2)]
          have : gapN ((bytesOf s).drop i) = some 0 := by
            match h : (bytesOf s).drop i with
            | [] => rfl
            | [x] =>
              rw [drop_bt s i hi] at h
              injection h with h1 h2
              rw [gapN, if_neg (by rw [← h1]; exact c0)]
            | x :: y :: r =>
              have h' := h
              rw [drop_bt s i hi] at h'
              injection h' with h1 h2
              rw [gapN, if_neg (by rw [← h1]; exact c0), if_neg (by rintro ⟨e1, e2⟩; exact c1 ⟨r, by rw [h, e1, e2]⟩), if_neg (by rintro ⟨e1, e2⟩; exact c2 ⟨r, by rw [h, e1, e2]⟩)]
          rw [this]
          rfl
  unfold grommetref09_gap.f
  rw [if_pos (by omega), if_pos (by omega)]
  have hbl : blankB (bt s (i : Int)) = true ↔ (bt s (i : Int) = 32 ∨ bt s (i : Int) = 9 ∨ bt s (i : Int) = 10 ∨ bt s (i : Int) = 13) := by unfold blankB; rw [decide_eq_true_iff]
  by_cases b1 : bt s (i : Int) = 32
  · rw [if_pos b1]; exact j0 true ⟨fun _ => hbl.2 (.inl b1), fun _ => rfl⟩
  · rw [if_neg b1]
    by_cases b2 : bt s (i : Int) = 9
    · rw [if_pos b2]; exact j0 true ⟨fun _ => hbl.2 (.inr (.inl b2)), fun _ => rfl⟩
    · rw [if_neg b2]
      by_cases b3 : bt s (i : Int) = 10
      · rw [if_pos b3]; exact j0 true ⟨fun _ => hbl.2 (.inr (.inr (.inl b3))), fun _ => rfl⟩
      · rw [if_neg b3]
        refine j0 _ ⟨fun h => hbl.2 (.inr (.inr (.inr (beq_iff_eq.1 h)))), fun h => beq_iff_eq.2 ?_⟩
        rcases hbl.1 h with h | h | h | h
        · exact absurd h b1
        · exact absurd h b2
        · exact absurd h b3
        · exact h
theorem text_l0 (s : ByteArray) (hs : s.size ≤ 100000) : ∀ (m i k : Nat), s.size ≤ i + m → i ≤ s.size + 1 → 2 * m + 2 ≤ k → grommetref09_text.l0 k s (i : Int) = some (pos i (qt ((bytesOf s).drop i))) := by
  intro m
  induction m using Nat.strongRecOn with
  | ind m ih =>
    intro i k h1 h2 h5
    obtain ⟨k, rfl⟩ : ∃ j, k = j + 1 + 1 := ⟨k - 2, by omega⟩
    rw [grommetref09_text.l0]
    by_cases hlt : i < s.size
    · rw [if_pos (by omega), if_pos (by omega), drop_bt s i hlt, qt_cons]
      have j1 : ∀ bad : Bool, (bad = true ↔ badB (bt s (i : Int)) = true) → grommetref09_text.j1 (k + 1) s (i : Int) bad = some (pos i (if badB (bt s (i : Int)) = true then none else if bt s (i : Int) = 34 then some 1 else if bt s (i : Int) = 92 then (match (bytesOf s).drop (i + 1) with
          | [] => none
          | y :: r' => if badB y = true then none else (qt r').map (· + 2)) else (qt ((bytesOf s).drop (i + 1))).map (· + 1))) := by
        intro bad hbad
        rw [grommetref09_text.j1]
        by_cases cb : badB (bt s (i : Int)) = true
        · rw [if_pos cb, if_pos (hbad.2 cb)]; rfl
        · rw [if_neg cb, if_neg (fun h => cb (hbad.1 h)), if_pos (by omega), if_pos (by omega)]
          by_cases c1 : bt s (i : Int) = 34
          · rw [if_pos c1, if_pos c1, w64i _ (by omega) (by omega)]; rfl
          · rw [if_neg c1, if_neg c1, w64i ((i : Int) + 1) (by omega) (by omega)]
            by_cases c2 : bt s (i : Int) = 92
            · rw [if_pos c2, if_pos c2, w64i ((i : Int) + 1 + 1) (by omega) (by omega), show ((i : Int) + 1 + 1) = ((i + 2 : Nat) : Int) by omega, show ((i : Int) + 1) = ((i + 1 : Nat) : Int) by omega]
              rcases Nat.lt_or_ge (i + 1) s.size with q | q
              · rw [if_pos (by omega), if_pos (by omega), drop_bt s (i + 1) q]
                simp only
                by_cases c3 : badB (bt s ((i + 1 : Nat) : Int)) = true
                · rw [if_pos c3]
                  by_cases c4 : bt s ((i + 1 : Nat) : Int) < 32
                  · rw [if_pos c4]; rfl
                  · rw [if_neg c4, if_pos (((bad_iff _).1 c3).resolve_left c4)]; rfl
                · rw [if_neg c3, if_neg (fun h => c3 ((bad_iff _).2 (.inl h))), if_neg (fun h => c3 ((bad_iff _).2 (.inr h)))]
                  rw [ih (m - 2) (by omega) (i + 2) k (by omega) (by omega) (by omega)]
                  cases qt ((bytesOf s).drop (i + 1 + 1)) with
                  | none => rfl
                  | some n => simp only [pos, Option.map_some]; congr 1; omega
              · rw [if_neg (by omega), drop_end s (i + 1) q]
                simp only
                rw [show k = (k - 2) + 1 + 1 by omega, grommetref09_text.l0, if_neg (by omega)]
                rfl
            · rw [if_neg c2, if_neg c2, show ((i : Int) + 1) = ((i + 1 : Nat) : Int) by omega, ih (m - 1) (by omega) (i + 1) k (by omega) (by omega) (by omega)]
              cases qt ((bytesOf s).drop (i + 1)) with
              | none => rfl
              | some n => simp only [pos, Option.map_some]; congr 1; omega
      by_cases c0 : bt s (i : Int) < 32
      · rw [if_pos c0]
        exact j1 true ⟨fun _ => (bad_iff _).2 (.inl c0), fun _ => rfl⟩
      · rw [if_neg c0]
        exact j1 _ ⟨fun h => (bad_iff _).2 (.inr (beq_iff_eq.1 h)), fun h => beq_iff_eq.2 (((bad_iff _).1 h).resolve_left c0)⟩
    · rw [if_neg (by omega), drop_end s i (by omega)]
      rfl
theorem text_f (s : ByteArray) (hs : s.size ≤ 100000) (i k : Nat) (hi : i < s.size) (hk : 2 * s.size + 2 ≤ k) : grommetref09_text.f k s (i : Int) = some (pos (i + 1) (qt ((bytesOf s).drop (i + 1)))) := by
  unfold grommetref09_text.f
  rw [w64i _ (by omega) (by omega), show ((i : Int) + 1) = ((i + 1 : Nat) : Int) by omega]
  exact text_l0 s hs (s.size - (i + 1)) (i + 1) k (by omega) (by omega) (by omega)
theorem is_fin : ∀ x : Fin 256, grommetref09_is.f 30 (x.val : Int) = some (atomB (x.val : Int)) := by decide +kernel
theorem is_f (x : Int) (h0 : 0 ≤ x) (h1 : x < 256) (k : Nat) (hk : 30 ≤ k) : grommetref09_is.f k x = some (atomB x) := by
  obtain ⟨n, rfl⟩ := Int.eq_ofNat_of_zero_le h0
  exact at_rounds (g := fun k => grommetref09_is.f k (n : Int)) (fun k => grommetref09_is.mono _ k) hk (is_fin ⟨n, by omega⟩)
def docV : Except (Int × Nat) (List S36) → List S36 × Int × Int
  | .ok cs => (cs, 0, -1)
  | .error (b, at_) => ([], b, (at_ : Int))
end Go.Proofs.YtaidpcmndmjceaaDoor.Lx
