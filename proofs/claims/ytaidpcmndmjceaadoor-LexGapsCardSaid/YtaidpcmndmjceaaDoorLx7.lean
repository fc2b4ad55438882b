/- Plain facts: gaps about a text move its tokens and its faults, and do no more. -/
import Derived.Test.YtaidpcmndmjceaaDoorLx6
set_option linter.unusedVariables false
set_option linter.unusedSimpArgs false
namespace Go.Proofs.YtaidpcmndmjceaaDoor.Lx
open Go.RowKit Go.Proofs.YtaidpcmndmjceaaDoorW.PrintWords Go.Proofs.YtaidpcmndmjceaaDoorW.PrintLast Go.Proofs.YtaidpcmndmjceaaDoorW.PrintMore Go.Proofs.YtaidpcmndmjceaaDoor.RLexScans Go.Proofs.YtaidpcmndmjceaaDoor.Man
def shift (d : Nat) (t : S36) : S36 := ⟨t.f0, t.f1 + (d : Int), t.f2⟩
def shiftR (d : Nat) : Except (Int × Nat) (List S36) → Except (Int × Nat) (List S36)
  | .ok cs => .ok (cs.map (shift d))
  | .error q => .error (q.1, q.2 + d)
structure Good (t : List Int) : Prop where
  head : ∃ g, t = 32 :: g
  ends : ∀ F p out, t.length < F → scL F t p out = .ok out
  past : ∀ F p out, t.length < F → scL F (t.drop (line t)) p out = .ok out
  cmN : ∀ d, 1 ≤ d → cm d t = none
  qt0 : qt t = none
  qt1 : qt (t.drop 1) = none
theorem cm_app {t : List Int} (G : Good t) : ∀ (l : List Int) (d : Nat), 1 ≤ d → cm d (l ++ t) = cm d l
  | [], d, h => by rw [List.nil_append, G.cmN d h]; rfl
  | [x], d, h => by
    obtain ⟨g, e⟩ := G.head
    have k := G.cmN d h
    rw [e] at k ⊢
    rw [List.cons_append, List.nil_append, cm, if_neg (by omega), if_neg (by omega), k]
    rfl
  | x :: y :: r, d, h => by
    rw [List.cons_append, List.cons_append, cm, cm, cm_app G r (d + 1) (by omega)]
    have k := cm_app G (y :: r) d h
    rw [List.cons_append] at k
    rw [k]
    by_cases c : d ≤ 1
    · rw [if_pos c, if_pos c]
    · rw [if_neg c, if_neg c, cm_app G r (d - 1) (by omega)]
theorem qt_app {t : List Int} (G : Good t) : ∀ (l : List Int), qt (l ++ t) = qt l
  | [] => by rw [List.nil_append, G.qt0]; rfl
  | [x] => by
    obtain ⟨g, e⟩ := G.head
    have k0 := G.qt0
    have k1 := G.qt1
    rw [e] at k0 k1 ⊢
    rw [List.drop_succ_cons, List.drop_zero] at k1
    rw [List.cons_append, List.nil_append, qt_cons x (32 :: g), qt_cons x [], k0]
    simp only
    rw [if_neg (show ¬ badB 32 = true by decide), k1]
    rfl
  | x :: y :: r => by
    have k := qt_app G (y :: r)
    rw [List.cons_append] at k
    rw [List.cons_append, List.cons_append, qt_cons x (y :: (r ++ t)), qt_cons x (y :: r), k]
    simp only
    rw [qt_app G r]
theorem line_app (t : List Int) : ∀ l : List Int, line (l ++ t) = line l ∨ (line l = l.length ∧ line (l ++ t) = l.length + line t)
  | [] => .inr ⟨rfl, by rw [List.nil_append]; simp⟩
  | x :: r => by
    rw [List.cons_append, line, line]
    by_cases c : x = 10
    · rw [if_pos c, if_pos c]; exact .inl rfl
    · rw [if_neg c, if_neg c]
      rcases line_app t r with h | ⟨h1, h2⟩
      · left; rw [h]
      · right; rw [h1, h2, List.length_cons]; omega
theorem tw_app2 {p : Int → Bool} {y : Int} (hy : p y = false) (g : List Int) : ∀ l : List Int, (l ++ y :: g).takeWhile p = l.takeWhile p
  | [] => by rw [List.nil_append, List.takeWhile_cons, if_neg (by rw [hy]; decide)]; rfl
  | x :: r => by rw [List.cons_append, List.takeWhile_cons, List.takeWhile_cons, tw_app2 hy g r]
theorem tokN_app {t : List Int} (G : Good t) {l : List Int} (hl : l ≠ []) : tokN (l ++ t) = tokN l := by
  match l, hl with
  | x :: r, _ =>
    obtain ⟨g, e⟩ := G.head
    have htw : (x :: (r ++ t)).takeWhile atomB = (x :: r).takeWhile atomB := by rw [e, ← List.cons_append]; exact tw_app2 (by decide) g (x :: r)
    rw [List.cons_append, tokN, tokN, qt_app G r, htw]
    cases hq : qt r with
    | none => rfl
    | some n =>
      have hp := qt_pos r n hq
      rw [Option.map_some, Option.map_some, List.take_append_of_le_length (by omega)]
theorem gapN_app {t : List Int} (G : Good t) {l : List Int} (hl : l ≠ []) : gapN (l ++ t) = gapN l ∨ (gapN l = some l.length ∧ gapN (l ++ t) = some (l.length + line t)) := by
  match l, hl with
  | [x], _ =>
    obtain ⟨g, e⟩ := G.head
    left
    rw [e, List.cons_append, List.nil_append, gapN, gapN, if_neg (show ¬ (x = 59 ∧ (32 : Int) = 59) by omega), if_neg (show ¬ (x = 40 ∧ (32 : Int) = 59) by omega)]
  | x :: y :: r, _ =>
    rw [List.cons_append, List.cons_append, gapN, gapN, cm_app G r 1 (by omega)]
    by_cases c1 : blankB x = true
    · left; rw [if_pos c1, if_pos c1]
    · rw [if_neg c1, if_neg c1]
      by_cases c2 : x = 59 ∧ y = 59
      · rw [if_pos c2, if_pos c2]
        have k := line_app t (x :: y :: r)
        rw [List.cons_append, List.cons_append] at k
        rcases k with h | ⟨h1, h2⟩
        · left; rw [h]
        · right; rw [h1, h2]; exact ⟨rfl, rfl⟩
      · left; rw [if_neg c2, if_neg c2]
theorem scL_nil (F p : Nat) (out : List S36) : scL F [] p out = .ok out := by
  cases F with
  | zero => rfl
  | succ F => rw [scL, if_pos rfl]
theorem scL_ext {t : List Int} (G : Good t) (d : Nat) : ∀ (f : Nat) (l : List Int) (p : Nat) (out : List S36) (F : Nat), l.length < f → l.length + t.length < F → scL F (l ++ t) (p + d) (out.map (shift d)) = shiftR d (scL f l p out)
  | 0, l, p, out, F, h, _ => absurd h (Nat.not_lt_zero _)
  | f + 1, [], p, out, F, h, hF => by
    rw [List.nil_append, G.ends _ _ _ (by simpa using hF), scL_nil]
    rfl
  | f + 1, x :: r, p, out, F, h, hF => by
    obtain ⟨F, rfl⟩ : ∃ j, F = j + 1 := ⟨F - 1, by omega⟩
    have hne : x :: r ≠ [] := by simp
    obtain ⟨l, hl⟩ : ∃ l, l = x :: r := ⟨_, rfl⟩
    rw [← hl] at h hF hne ⊢
    have hlp : 1 ≤ l.length := by rw [hl]; simp
    rw [scL, scL, if_neg (by rw [hl]; simp), if_neg hne]
    rcases gapN_app G hne with e | ⟨e1, e2⟩
    · rw [e]
      cases hg : gapN l with
      | none => rfl
      | some n =>
        have hgl := gapN_len hg
        match n, hgl with
        | n + 1, hgl =>
          simp only
          rw [List.drop_append_of_le_length hgl, show p + d + (n + 1) = p + (n + 1) + d by omega]
          exact scL_ext G d f (l.drop (n + 1)) (p + (n + 1)) out F (by rw [List.length_drop]; omega) (by rw [List.length_drop]; omega)
        | 0, _ =>
          simp only
          rw [tokN_app G hne]
          cases ht : tokN l with
          | none => rfl
          | some q =>
            obtain ⟨k, tx, n⟩ := q
            have htl := tokN_len ht
            simp only
            rw [List.length_map]
            by_cases c : out.length = 4096
            · rw [if_pos c, if_pos c]; rfl
            · rw [if_neg c, if_neg c, List.drop_append_of_le_length htl.2, show p + d + n = p + n + d by omega]
              have k := scL_ext G d f (l.drop n) (p + n) (out ++ [⟨k, (p : Int), strOfNums tx⟩]) F (by rw [List.length_drop]; omega) (by rw [List.length_drop]; omega)
              rw [List.map_append] at k
              rw [← k]
              congr 1
    · rw [e1, e2]
      obtain ⟨m, hm⟩ : ∃ m, l.length = m + 1 := ⟨l.length - 1, by omega⟩
      rw [hm, show m + 1 + line t = (m + line t) + 1 by omega]
      simp only
      rw [show m + line t + 1 = l.length + line t by omega, List.drop_append, List.drop_eq_nil_of_le (by omega), List.nil_append, Nat.add_sub_cancel_left, G.past _ _ _ (by omega), List.drop_eq_nil_of_le (by omega), scL_nil]
      rfl
def gapsL : List (List Int) := [[32], [9, 13, 10], [59, 59, 32, 120, 10], [40, 59, 32, 97, 32, 40, 59, 32, 98, 32, 59, 41, 32, 59, 41], [40, 59, 59, 41]]
theorem scL_gap {l : List Int} {n : Nat} (hl : l ≠ []) (hg : gapN l = some (n + 1)) (f p : Nat) (out : List S36) : scL (f + 1) l p out = scL f (l.drop (n + 1)) (p + (n + 1)) out := by
  rw [scL, if_neg hl, hg]
theorem gap_blank {x : Int} (h : blankB x = true) (r : List Int) : gapN (x :: r) = some (0 + 1) := by
  cases r with
  | nil => rw [gapN, if_pos h]
  | cons y r => rw [gapN, if_pos h]
theorem pre : ∀ g ∈ gapsL, ∃ k, k ≤ g.length ∧ ∀ (rest : List Int) (p : Nat) (out : List S36) (F : Nat), scL (F + k) (g ++ rest) p out = scL F rest (p + g.length) out := by
  intro g hg
  simp only [gapsL, List.mem_cons, List.not_mem_nil, or_false] at hg
  rcases hg with rfl | rfl | rfl | rfl | rfl
  · refine ⟨1, by decide, fun rest p out F => ?_⟩
    rw [List.cons_append, List.nil_append, scL_gap (by simp) (gap_blank (by decide) rest)]
    rfl
  · refine ⟨3, by decide, fun rest p out F => ?_⟩
    rw [List.cons_append, List.cons_append, List.cons_append, List.nil_append, scL_gap (by simp) (gap_blank (by decide) _), List.drop_succ_cons, List.drop_zero, scL_gap (by simp) (gap_blank (by decide) _), List.drop_succ_cons, List.drop_zero, scL_gap (by simp) (gap_blank (by decide) _), List.drop_succ_cons, List.drop_zero]
    rfl
  · refine ⟨1, by decide, fun rest p out F => ?_⟩
    have h : gapN ([59, 59, 32, 120, 10] ++ rest) = some (4 + 1) := rfl
    rw [scL_gap (by simp) h]
    rfl
  · refine ⟨1, by decide, fun rest p out F => ?_⟩
    have h : gapN ([40, 59, 32, 97, 32, 40, 59, 32, 98, 32, 59, 41, 32, 59, 41] ++ rest) = some (14 + 1) := rfl
    rw [scL_gap (by simp) h]
    rfl
  · refine ⟨1, by decide, fun rest p out F => ?_⟩
    have h : gapN ([40, 59, 59, 41] ++ rest) = some (3 + 1) := rfl
    rw [scL_gap (by simp) h]
    rfl
theorem good_of {g : List Int} (h1 : ∀ p out F, g.length + 1 < F → scL F (32 :: g) p out = .ok out) (h2 : ∀ p out F, g.length + 1 < F → scL F ((32 :: g).drop (line (32 :: g))) p out = .ok out) (h3 : ∀ d, cm (d + 1) (32 :: g) = none) (h4 : qt (32 :: g) = none) (h5 : qt g = none) : Good (32 :: g) :=
  ⟨⟨g, rfl⟩, fun F p out h => h1 p out F (by simpa using h), fun F p out h => h2 p out F (by simpa using h), fun d hd => by obtain ⟨d, rfl⟩ : ∃ j, d = j + 1 := ⟨d - 1, by omega⟩; exact h3 d, h4, h5⟩
theorem ends_of {g : List Int} (hg : g ∈ gapsL) : ∀ p out F, g.length + 1 < F → scL F (32 :: g) p out = .ok out := by
  intro p out F hF
  obtain ⟨k, hk, h⟩ := pre g hg
  obtain ⟨F, rfl⟩ : ∃ j, F = j + k + 1 := ⟨F - k - 1, by omega⟩
  have e := h [] (p + (0 + 1)) out F
  rw [List.append_nil] at e
  rw [scL_gap (by simp) (gap_blank (by decide) g), List.drop_succ_cons, List.drop_zero, e, scL_nil]
theorem good : ∀ g ∈ gapsL, Good (32 :: g) := by
  intro g hg
  have e1 := ends_of hg
  simp only [gapsL, List.mem_cons, List.not_mem_nil, or_false] at hg
  rcases hg with rfl | rfl | rfl | rfl | rfl
  · exact good_of e1 (fun p out F _ => scL_nil F p out) (fun d => by simp [cm]) rfl rfl
  · exact good_of e1 (fun p out F _ => scL_nil F p out) (fun d => by simp [cm]) rfl rfl
  · exact good_of e1 (fun p out F _ => scL_nil F p out) (fun d => by simp [cm]) rfl rfl
  · exact good_of e1 (fun p out F _ => scL_nil F p out) (fun d => by simp [cm]) rfl rfl
  · exact good_of e1 (fun p out F _ => scL_nil F p out) (fun d => by simp [cm]) rfl rfl
theorem scan_gaps {g : List Int} (hg : g ∈ gapsL) (l : List Int) : scan (g ++ (l ++ 32 :: g)) = shiftR g.length (scan l) := by
  obtain ⟨k, hk, h⟩ := pre g hg
  unfold scan
  have e := scL_ext (good g hg) g.length (l.length + 1) l 0 [] ((g ++ (l ++ 32 :: g)).length + 1 - k) (by omega) (by simp only [List.length_append, List.length_cons]; omega)
  rw [← e]
  have e2 := h (l ++ 32 :: g) 0 [] ((g ++ (l ++ 32 :: g)).length + 1 - k)
  rw [Nat.sub_add_cancel (by simp only [List.length_append, List.length_cons]; omega)] at e2
  exact e2
end Go.Proofs.YtaidpcmndmjceaaDoor.Lx
