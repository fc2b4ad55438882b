/- What the printed functions answer: Flat, the document's Flat, Same. -/
import Derived.Test.YtiicmihecdeebaaLt5
import Derived.Test.YtiicmihecdeebaaRListFlatsx1
import Derived.Test.YtiicmihecdeebaaRListFlatsx2
import Derived.Test.YtiicmihecdeebaaRSame
set_option linter.unusedVariables false
set_option linter.unusedSimpArgs false
namespace Go.Proofs.Ytiicmihecdeebaa.Lt
open Go.RowKit Go.Proofs.YtiicmihecdeebaaW.PrintWords Go.Proofs.YtiicmihecdeebaaW.PrintLast Go.Proofs.YtiicmihecdeebaaW.PrintMore Go.Proofs.Ytiicmihecdeebaa.RListFlats
theorem w_next {i : Int} (h0 : 0 ≤ i) (h1 : i ≤ 1000000000) : wrap64 (i + 1) = i + 1 := by unfold wrap64; omega
theorem rd_drop {xs r : List S39} {n : S39} {i : Int} (h : xs.drop i.toNat = n :: r) (h0 : 0 ≤ i) : i < xs.length ∧ rd_T39 xs i = n ∧ xs.drop (i + 1).toNat = r := by
  have hlt : i.toNat < xs.length := by
    rcases Nat.lt_or_ge i.toNat xs.length with h1 | h1
    · exact h1
    · rw [List.drop_eq_nil_of_le h1] at h; cases h
  rw [List.drop_eq_getElem_cons hlt] at h
  injection h with h1 h2
  refine ⟨by omega, ?_, by rw [show (i + 1).toNat = i.toNat + 1 by omega]; exact h2⟩
  unfold rd_T39
  rw [List.getD_eq_getElem?_getD, List.getElem?_eq_getElem hlt]
  exact h1
theorem drop_nil {xs : List S39} {i : Int} (h : xs.drop i.toNat = []) (h1 : i ≤ xs.length) (h0 : 0 ≤ i) : i = xs.length := by
  have := List.drop_eq_nil_iff.1 h
  omega
theorem flat_len : ∀ r : List S39, (flat r).length ≤ 2 * cnt r
  | [] => by simp [flat]
  | ⟨a, b, c, d⟩ :: r => by
    have h1 := flat_len d
    have h2 := flat_len r
    rw [flat, cnt, List.length_append]
    split
    · simp; omega
    · split
      · simp; omega
      · simp; omega
theorem flat_l0 : ∀ (r xs : List S39) (acc : List S36) (k : Nat) (i : Int), 0 ≤ i → xs.drop i.toNat = r → i ≤ xs.length → xs.length ≤ 1000000000 → 1 + 3 * cnt r ≤ k → cnt r ≤ 1000000000 → acc.length + 2 * cnt r ≤ 4000000000 → list_Flat.l0 k acc xs xs.length i = some (acc ++ flat r)
  | [], xs, acc, k, i, h0, hd, h1, h2, hk, hc, ha => by
    obtain ⟨k, rfl⟩ : ∃ k', k = k' + 1 := ⟨k - 1, by omega⟩
    have e := drop_nil hd h1 h0
    rw [list_Flat.l0, if_neg (by omega), flat, List.append_nil]
  | ⟨a, b, c, d⟩ :: r, xs, acc, k, i, h0, hd, h1, h2, hk, hc, ha => by
    have hcn : cnt (⟨a, b, c, d⟩ :: r) = 1 + cnt d + cnt r := by rw [cnt]
    obtain ⟨k, rfl⟩ : ∃ k', k = k' + 1 + 1 := ⟨k - 2, by omega⟩
    obtain ⟨q1, q2, q3⟩ := rd_drop hd h0
    have hw := w_next h0 (by omega)
    have hl := cnt_len d
    have hfl := flat_len d
    rw [list_Flat.l0, if_pos q1, if_pos h0, if_pos q1, q2]
    simp only
    have hx4 : ¬ (acc.length ≥ 4398046511104) := by omega
    have step : ∀ (acc' : List S36) (k' : Nat), 1 + 3 * cnt r ≤ k' → acc'.length + 2 * cnt r ≤ 4000000000 → list_Flat.l0 k' acc' xs xs.length (wrap64 (i + 1)) = some (acc' ++ flat r) := fun acc' k' hk' ha' => by
      rw [hw]
      exact flat_l0 r xs acc' k' (i + 1) (by omega) q3 (by omega) h2 hk' (by omega) ha'
    have main : ∀ b4 : Bool, (b4 = true ↔ (a = 4 ∨ a = 3)) → list_Flat.j1 (k + 1) acc xs xs.length i a b4 a b c d = some (acc ++ flat (⟨a, b, c, d⟩ :: r)) := by
      intro b4 hb4
      rw [list_Flat.j1, flat]
      by_cases h4 : a = 4 ∨ a = 3
      · rw [if_pos (hb4.2 h4), if_pos (by omega), if_pos h4, step _ _ (by omega) (by simp; omega), List.append_assoc]
      · rw [if_neg (fun h => h4 (hb4.1 h)), if_neg h4]
        by_cases ha1 : a = 1
        · subst ha1
          rw [if_pos rfl, if_pos rfl, if_pos (by omega), Option.bind_some]
          obtain ⟨k, rfl⟩ : ∃ k', k = k' + 1 := ⟨k - 1, by omega⟩
          have hf : list_Flat.f (k + 1) d = some (flat d) := by
            rw [list_Flat.f]
            have := flat_l0 d d [] k 0 (by omega) rfl (by omega) (by omega) (by omega) (by omega) (by simp; omega)
            rwa [List.nil_append] at this
          rw [hf, Option.bind_some, if_pos (by simp; omega), Option.bind_some, if_pos (by simp; omega), step _ _ (by omega) (by simp; omega)]
          simp only [List.append_assoc]
        · rw [if_neg ha1, if_neg ha1, step _ _ (by omega) (by omega), List.nil_append]
    by_cases h4 : a = 4
    · rw [if_pos h4]
      exact main _ (by subst h4; simp)
    · rw [if_neg h4]
      exact main _ (by constructor <;> intro h <;> simp_all)
  termination_by r => SizeOf.sizeOf r
theorem flat_f {ns : List S39} {k : Nat} (hc : cnt ns ≤ 1000000000) (hk : 2 + 3 * cnt ns ≤ k) : list_Flat.f k ns = some (flat ns) := by
  obtain ⟨k, rfl⟩ : ∃ k', k = k' + 1 := ⟨k - 1, by omega⟩
  have hl := cnt_len ns
  rw [list_Flat.f]
  have := flat_l0 ns ns [] k 0 (by omega) rfl (by omega) (by omega) (by omega) (by omega) (by simp; omega)
  rwa [List.nil_append] at this
theorem rflat_l0 : ∀ (r xs : List S39) (acc : List S36) (k : Nat) (i : Int), 0 ≤ i → xs.drop i.toNat = r → i ≤ xs.length → xs.length ≤ 1000000000 → 1 + 3 * cnt r ≤ k → cnt r ≤ 1000000000 → acc.length + 2 * cnt r ≤ 4000000000 → grommetref10_Flat.l0 k xs acc i = some (acc ++ flat r)
  | [], xs, acc, k, i, h0, hd, h1, h2, hk, hc, ha => by
    obtain ⟨k, rfl⟩ : ∃ k', k = k' + 1 := ⟨k - 1, by omega⟩
    have e := drop_nil hd h1 h0
    rw [grommetref10_Flat.l0, if_neg (by omega), flat, List.append_nil]
  | ⟨a, b, c, d⟩ :: r, xs, acc, k, i, h0, hd, h1, h2, hk, hc, ha => by
    have hcn : cnt (⟨a, b, c, d⟩ :: r) = 1 + cnt d + cnt r := by rw [cnt]
    obtain ⟨k, rfl⟩ : ∃ k', k = k' + 1 + 1 := ⟨k - 2, by omega⟩
    obtain ⟨q1, q2, q3⟩ := rd_drop hd h0
    have hw := w_next h0 (by omega)
    have hl := cnt_len d
    have hfl := flat_len d
    rw [grommetref10_Flat.l0, if_pos q1, if_pos h0, q2]
    simp only
    have step : ∀ (acc' : List S36) (k' : Nat), 1 + 3 * cnt r ≤ k' → acc'.length + 2 * cnt r ≤ 4000000000 → grommetref10_Flat.l0 k' xs acc' (wrap64 (i + 1)) = some (acc' ++ flat r) := fun acc' k' hk' ha' => by
      rw [hw]
      exact rflat_l0 r xs acc' k' (i + 1) (by omega) q3 (by omega) h2 hk' (by omega) ha'
    have main : ∀ b4 : Bool, (b4 = true ↔ (a = 4 ∨ a = 3)) → grommetref10_Flat.j1 (k + 1) xs acc i b4 = some (acc ++ flat (⟨a, b, c, d⟩ :: r)) := by
      intro b4 hb4
      rw [grommetref10_Flat.j1, flat, q2]
      simp only
      by_cases h4 : a = 4 ∨ a = 3
      · rw [if_pos (hb4.2 h4), if_pos h0, if_pos q1, if_pos (by omega), if_pos h4, Option.bind_some, if_neg (by omega), step _ _ (by omega) (by simp; omega), List.append_assoc]
      · rw [if_neg (fun h => h4 (hb4.1 h)), if_neg h4, if_pos h0, if_pos q1]
        by_cases ha1 : a = 1
        · subst ha1
          rw [if_pos rfl, if_pos rfl, if_pos (by omega), Option.bind_some]
          obtain ⟨k, rfl⟩ : ∃ k', k = k' + 1 := ⟨k - 1, by omega⟩
          have hf : grommetref10_Flat.f (k + 1) d = some (flat d) := by
            rw [grommetref10_Flat.f]
            have := rflat_l0 d d [] k 0 (by omega) rfl (by omega) (by omega) (by omega) (by omega) (by simp; omega)
            rwa [List.nil_append] at this
          rw [hf, Option.bind_some, if_pos (by simp; omega), Option.bind_some, if_pos (by simp; omega), step _ _ (by omega) (by simp; omega)]
          simp only [List.append_assoc]
        · rw [if_neg ha1, if_neg ha1, step _ _ (by omega) (by omega), List.nil_append]
    by_cases h3 : a = 3
    · rw [if_pos h3]
      exact main _ (by subst h3; simp)
    · rw [if_neg h3]
      exact main _ (by constructor <;> intro h <;> simp_all)
  termination_by r => SizeOf.sizeOf r
theorem rflat_f {ns : List S39} {k : Nat} (hc : cnt ns ≤ 1000000000) (hk : 2 + 3 * cnt ns ≤ k) : grommetref10_Flat.f k ns = some (flat ns) := by
  obtain ⟨k, rfl⟩ : ∃ k', k = k' + 1 := ⟨k - 1, by omega⟩
  have hl := cnt_len ns
  rw [grommetref10_Flat.f]
  have := rflat_l0 ns ns [] k 0 (by omega) rfl (by omega) (by omega) (by omega) (by omega) (by simp; omega)
  rwa [List.nil_append] at this
theorem same_l0 : ∀ (r xs : List S39) (k : Nat) (i : Int), 0 ≤ i → xs.drop i.toNat = r → i ≤ xs.length → xs.length ≤ 1000000000 → 1 + 3 * cnt r ≤ k → cnt r ≤ 1000000000 → grommetref10_Same.l0 k xs xs i = some true
  | [], xs, k, i, h0, hd, h1, h2, hk, hc => by
    obtain ⟨k, rfl⟩ : ∃ k', k = k' + 1 := ⟨k - 1, by omega⟩
    have e := drop_nil hd h1 h0
    rw [grommetref10_Same.l0, if_neg (by omega)]
  | ⟨a, b, c, d⟩ :: r, xs, k, i, h0, hd, h1, h2, hk, hc => by
    have hcn : cnt (⟨a, b, c, d⟩ :: r) = 1 + cnt d + cnt r := by rw [cnt]
    obtain ⟨k, rfl⟩ : ∃ k', k = k' + 1 + 1 := ⟨k - 2, by omega⟩
    obtain ⟨q1, q2, q3⟩ := rd_drop hd h0
    have hw := w_next h0 (by omega)
    have hl := cnt_len d
    rw [grommetref10_Same.l0, if_pos q1, if_pos h0, if_pos q1, q2]
    simp only [if_true]
    have hf : grommetref10_Same.f (k + 1) d d = some true := by
      rw [grommetref10_Same.f, if_pos rfl]
      exact same_l0 d d k 0 (by omega) rfl (by omega) (by omega) (by omega) (by omega)
    rw [hf, Option.bind_some, if_pos rfl, hw]
    exact same_l0 r xs (k + 1) (i + 1) (by omega) q3 (by omega) h2 (by omega) (by omega)
  termination_by r => SizeOf.sizeOf r
theorem same_f {ns : List S39} {k : Nat} (hc : cnt ns ≤ 1000000000) (hk : 2 + 3 * cnt ns ≤ k) : grommetref10_Same.f k ns ns = some true := by
  obtain ⟨k, rfl⟩ : ∃ k', k = k' + 1 := ⟨k - 1, by omega⟩
  have hl := cnt_len ns
  rw [grommetref10_Same.f, if_pos rfl]
  exact same_l0 ns ns k 0 (by omega) rfl (by omega) (by omega) (by omega) (by omega)
/-- law09's Same of tokens and themselves. -/
theorem tsame_l0 (l : List S36) (b : Bool) (hl : l.length ≤ 1000000000) : ∀ (n k : Nat) (i : Int), 0 ≤ i → i ≤ l.length → l.length - i.toNat = n → n + 1 ≤ k → grommetlaw09_Same.l0 k l l b i = some true := by
  intro n
  induction n with
  | zero =>
    intro k i h0 h1 hn hk
    obtain ⟨k, rfl⟩ : ∃ k', k = k' + 1 := ⟨k - 1, by omega⟩
    rw [grommetlaw09_Same.l0, if_neg (by omega)]
  | succ n ih =>
    intro k i h0 h1 hn hk
    obtain ⟨k, rfl⟩ : ∃ k', k = k' + 1 := ⟨k - 1, by omega⟩
    have hw := w_next h0 (by omega)
    have hi := ih k (i + 1) (by omega) (by omega) (by omega) (by omega)
    rw [grommetlaw09_Same.l0, if_pos (by omega), if_pos h0, if_pos (by omega), if_pos rfl, if_pos rfl, if_pos rfl, hw, hi]
    split <;> rfl
theorem tsame_f {l : List S36} {b : Bool} {k : Nat} (hl : l.length ≤ 1000000000) (hk : l.length + 1 ≤ k) : grommetlaw09_Same.f k l l b = some true := by
  rw [grommetlaw09_Same.f, if_pos rfl]
  exact tsame_l0 l b hl l.length k 0 (by omega) (by omega) (by simp) hk
end Go.Proofs.Ytiicmihecdeebaa.Lt
