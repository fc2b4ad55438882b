/- Plain facts: what sect.Join, the document's Join and the law's 'small' answer. -/
import Derived.Test.YtibeoejnfpbcfaaDoorSj0
import Derived.Test.YtibeoejnfpbcfaaDoorRSectSplitsx6
import Derived.Test.YtibeoejnfpbcfaaDoorSj3
namespace Go.Proofs.YtibeoejnfpbcfaaDoor.Sx
open Go.RowKit Go.Proofs.YtibeoejnfpbcfaaDoorW.PrintWords Go.Proofs.YtibeoejnfpbcfaaDoorW.PrintLast Go.Proofs.YtibeoejnfpbcfaaDoorW.PrintMore Go.Proofs.YtibeoejnfpbcfaaDoor.RSectSplits Go.Proofs.YtibeoejnfpbcfaaDoor.Leb Go.Proofs.YtibeoejnfpbcfaaDoor.Man
set_option linter.unusedVariables false
set_option linter.unusedSimpArgs false
def jnV : Option (List Int) → List Int × Option Int
  | none => ([], some 1)
  | some p => (p, none)
theorem rd_drop34 (l : List S34) (j : Nat) (h : j < l.length) : l.drop j = rd_T34 l (j : Int) :: l.drop (j + 1) := by
  unfold rd_T34
  rw [Int.toNat_natCast, List.getD_eq_getElem?_getD, List.getElem?_eq_getElem h]
  exact List.drop_eq_getElem_cons h
theorem rd_mem34 (l : List S34) (j : Nat) (h : j < l.length) : rd_T34 l (j : Int) ∈ l := by
  unfold rd_T34
  rw [Int.toNat_natCast, List.getD_eq_getElem?_getD, List.getElem?_eq_getElem h]
  exact List.getElem_mem h
theorem wrap_u64_n (n : Nat) (h : n ≤ 10000) : IntKind.u64.wrap (n : Int) = (n : Int) := by rw [wrap_u64]; omega
theorem one_len {n a b : Nat} (h : a ≤ 5) (hb : b ≤ 10000) : n + 1 + a + b ≤ n + 10006 := by omega
theorem bind3 {α : Type} (out : List Int) (x : Int) (E B : List Int) (F : Option (List Int)) (K : List Int → Option α) (hF : F = some E) (h1 : out.length < 140737488355328) (h2 : (out ++ [x]).length + E.length < 140737488355328) (h3 : (out ++ [x] ++ E).length + B.length < 140737488355328) :
    (if out.length < 140737488355328 then ((some (out ++ [x] : List Int)).bind fun y121 => (F.bind fun t124 => (if y121.length + t124.length < 140737488355328 then ((some (y121 ++ t124 : List Int)).bind fun y127 => (if y127.length + B.length < 140737488355328 then K (y127 ++ B) else (none))) else (none)))) else (none)) = K (out ++ x :: (E ++ B)) := by
  subst hF
  rw [if_pos h1, Option.bind_some, Option.bind_some, if_pos h2, Option.bind_some, if_pos h3]
  simp only [List.append_assoc, List.cons_append, List.nil_append]
theorem lens {out : List Int} {x : Int} {E B : List Int} {j : Nat} (hE : E.length ≤ 5) (hB : B.length ≤ 10000) (ho : out.length ≤ 8 + 10006 * j) (hj : j ≤ 300) :
    out.length < 140737488355328 ∧ (out ++ [x]).length + E.length < 140737488355328 ∧ (out ++ [x] ++ E).length + B.length < 140737488355328 ∧ (out ++ x :: (E ++ B)).length ≤ 8 + 10006 * (j + 1) := by
  simp only [List.length_append, List.length_cons, List.length_nil]
  omega
theorem join_l0 (l : List S34) (hl : l.length ≤ 300) (hs : ∀ s ∈ l, s.f2.length ≤ 10000) : ∀ (d j k : Nat) (last : Int) (out : List Int), j + d = l.length → d + 12 ≤ k → out.length ≤ 8 + 10006 * j →
    sect_Join.l0 k out last l (l.length : Int) (j : Int) = some (jnV (jn (l.drop j) last out))
  | 0, j, k, last, out, hj, hk, ho => by
    obtain ⟨k, rfl⟩ : ∃ m, k = m + 1 := ⟨k - 1, by omega⟩
    obtain rfl : j = l.length := by omega
    rw [sect_Join.l0, if_neg (by omega), List.drop_length, jn]
    rfl
  | d + 1, j, k, last, out, hj, hk, ho => by
    obtain ⟨k, rfl⟩ : ∃ m, k = m + 1 := ⟨k - 1, by omega⟩
    have hlt : j < l.length := by omega
    have hn := hs _ (rd_mem34 l j hlt)
    have ih : ∀ la o, o.length ≤ 8 + 10006 * (j + 1) → sect_Join.l0 k o la l (l.length : Int) (wrap64 ((j : Int) + 1)) = some (jnV (jn (l.drop (j + 1)) la o)) := by
      intro la o hlo
      rw [show wrap64 ((j : Int) + 1) = ((j + 1 : Nat) : Int) by unfold wrap64; omega]
      exact join_l0 l hl hs d (j + 1) k la o (by omega) (by omega) hlo
    rw [rd_drop34 l j hlt, jn, sect_Join.l0, if_pos (by omega), if_pos (by omega), if_pos (by omega)]
    generalize rd_T34 l (j : Int) = s at hn ⊢
    by_cases hb : s.f0 < 0 ∨ 11 < s.f0 ∨ (0 < s.f0 ∧ s.f0 ≤ last)
    · rw [if_pos hb]
      by_cases c1 : s.f0 < 0
      · rw [if_pos c1]; rfl
      · rw [if_neg c1]
        by_cases c2 : s.f0 > 11
        · rw [if_pos c2]; rfl
        · rw [if_neg c2, if_pos (show s.f0 > 0 by omega), if_pos (show s.f0 ≤ last by omega)]; rfl
    · rw [if_neg hb, if_neg (show ¬ s.f0 < 0 by omega), if_neg (show ¬ s.f0 > 11 by omega)]
      have em : s.f0 % 256 = s.f0 := by omega
      have hput : leb_PutU.f k (IntKind.u64.wrap ((s.f2.length : Nat) : Int)) = some (encU s.f2.length) := by
        rw [wrap_u64_n _ hn]; exact QSect.PutU_f _ k (by omega) (by omega)
      obtain ⟨l1, l2, l3, l4⟩ := lens (x := s.f0) (enc5 (n := s.f2.length) (by omega)) hn ho (Nat.le_trans (Nat.le_of_lt hlt) hl)
      rw [em]
      by_cases c3 : s.f0 > 0
      · rw [if_pos c3, if_neg (show ¬ s.f0 ≤ last by omega)]
        exact (bind3 out s.f0 _ s.f2 _ (fun o => sect_Join.l0 k o (mx last s.f0) l (l.length : Int) (wrap64 ((j : Int) + 1))) hput l1 l2 l3).trans (ih _ _ l4)
      · rw [if_neg c3]
        exact (bind3 out s.f0 _ s.f2 _ (fun o => sect_Join.l0 k o (mx last s.f0) l (l.length : Int) (wrap64 ((j : Int) + 1))) hput l1 l2 l3).trans (ih _ _ l4)
theorem join_f (l : List S34) (hl : l.length ≤ 300) (hs : ∀ s ∈ l, s.f2.length ≤ 10000) : sect_Join.f 400 l = some (jnV (joins l)) := by
  unfold sect_Join.f joins
  by_cases h : 128 < l.length
  · rw [if_pos (by omega), if_pos h]; rfl
  · rw [if_neg (by omega), if_neg h]
    have k := join_l0 l hl hs l.length 0 400 0 magic (by omega) (by omega) (by simp [magic])
    rw [List.drop_zero] at k
    exact k
/-- The document's. -/
def jnR (m : Bool) : Option (List Int) → List Int × Bool
  | none => ([], false)
  | some p => (p, m)
theorem Put_enc (n k : Nat) (hn : n < 2 ^ 64) (hk : 900 ≤ k) : grommetref01_Put.f k (n : Int) false = some (encU n) := QSect.Put_U n k hn hk
theorem mx_of {a b : Int} (h : ¬ (b > 0 ∧ b ≤ a)) (h0 : ¬ b < 0) (ha : 0 ≤ a) : (b = 0 → mx a b = a) ∧ (¬ b = 0 → mx a b = b) := by
  unfold mx
  constructor
  · intro e; split <;> omega
  · intro e; split <;> omega
theorem rjoin_l0 (l : List S34) (hl : l.length ≤ 300) (hs : ∀ s ∈ l, s.f2.length ≤ 10000) : ∀ (d j k : Nat) (last : Int) (out : List Int), j + d = l.length → 2 * d + 901 ≤ k → out.length ≤ 8 + 10006 * j → 0 ≤ last →
    grommetref07_Join.l0 k l out last (j : Int) = some (jnR (decide ((l.length : Int) ≤ 128)) (jn (l.drop j) last out))
  | 0, j, k, last, out, hj, hk, ho, h0 => by
    obtain ⟨k, rfl⟩ : ∃ m, k = m + 1 := ⟨k - 1, by omega⟩
    obtain rfl : j = l.length := by omega
    rw [grommetref07_Join.l0, if_neg (by omega), List.drop_length, jn]
    rfl
  | d + 1, j, k, last, out, hj, hk, ho, h0 => by
    obtain ⟨k, rfl⟩ : ∃ m, k = m + 1 + 1 := ⟨k - 2, by omega⟩
    have hlt : j < l.length := by omega
    have hn := hs _ (rd_mem34 l j hlt)
    have ih : ∀ la o, 0 ≤ la → o.length ≤ 8 + 10006 * (j + 1) → grommetref07_Join.l0 k l o la (wrap64 ((j : Int) + 1)) = some (jnR (decide ((l.length : Int) ≤ 128)) (jn (l.drop (j + 1)) la o)) := by
      intro la o hla hlo
      rw [show wrap64 ((j : Int) + 1) = ((j + 1 : Nat) : Int) by unfold wrap64; omega]
      exact rjoin_l0 l hl hs d (j + 1) k la o (by omega) (by omega) hlo hla
    have no : grommetref07_Join.j1 (k + 1) l out last (j : Int) true = some ([], false) := by rw [grommetref07_Join.j1, if_pos rfl]
    have hmx := mx_of (a := last) (b := (rd_T34 l (j : Int)).f0)
    have yes : ¬ ((rd_T34 l (j : Int)).f0 < 0 ∨ 11 < (rd_T34 l (j : Int)).f0 ∨ (0 < (rd_T34 l (j : Int)).f0 ∧ (rd_T34 l (j : Int)).f0 ≤ last)) → grommetref07_Join.j1 (k + 1) l out last (j : Int) false = some (jnR (decide ((l.length : Int) ≤ 128)) (jn (l.drop (j + 1)) (mx last (rd_T34 l (j : Int)).f0) (out ++ (rd_T34 l (j : Int)).f0 :: (encU (rd_T34 l (j : Int)).f2.length ++ (rd_T34 l (j : Int)).f2)))) := by
      intro hb
      rw [grommetref07_Join.j1, if_neg (by decide), if_pos (show (0 : Int) ≤ (j : Int) by omega), if_pos (show (j : Int) < (l.length : Int) by omega)]
      generalize rd_T34 l (j : Int) = s at hn hb hmx ⊢
      have hm := hmx (fun q => hb (Or.inr (Or.inr q))) (fun q => hb (Or.inl q)) h0
      have em : s.f0 % 256 = s.f0 := by omega
      have hput : grommetref01_Put.f k (IntKind.u64.wrap ((s.f2.length : Nat) : Int)) false = some (encU s.f2.length) := by
        rw [wrap_u64_n _ hn]; exact Put_enc _ k (by omega) (by omega)
      obtain ⟨l1, l2, l3, l4⟩ := lens (x := s.f0) (enc5 (n := s.f2.length) (by omega)) hn ho (Nat.le_trans (Nat.le_of_lt hlt) hl)
      rw [em]
      by_cases cz : s.f0 = 0
      · rw [if_pos cz, hm.1 cz]
        exact (bind3 out s.f0 _ s.f2 _ (fun o => grommetref07_Join.l0 k l o last (wrap64 ((j : Int) + 1))) hput l1 l2 l3).trans (ih _ _ h0 l4)
      · rw [if_neg cz, hm.2 cz]
        exact (bind3 out s.f0 _ s.f2 _ (fun o => grommetref07_Join.l0 k l o s.f0 (wrap64 ((j : Int) + 1))) hput l1 l2 l3).trans (ih _ _ (by omega) l4)
    rw [rd_drop34 l j hlt, jn, grommetref07_Join.l0, if_pos (by omega), if_pos (by omega)]
    by_cases hb : (rd_T34 l (j : Int)).f0 < 0 ∨ 11 < (rd_T34 l (j : Int)).f0 ∨ (0 < (rd_T34 l (j : Int)).f0 ∧ (rd_T34 l (j : Int)).f0 ≤ last)
    · rw [if_pos hb]
      by_cases c1 : (rd_T34 l (j : Int)).f0 < 0
      · rw [if_pos c1, no]; rfl
      · rw [if_neg c1]
        by_cases c2 : (rd_T34 l (j : Int)).f0 > 11
        · rw [if_pos c2, no]; rfl
        · rw [if_neg c2, if_neg (show ¬ (rd_T34 l (j : Int)).f0 = 0 by omega), decide_eq_true (show (rd_T34 l (j : Int)).f0 ≤ last by omega), no]; rfl
    · rw [if_neg hb, if_neg (show ¬ (rd_T34 l (j : Int)).f0 < 0 by omega), if_neg (show ¬ (rd_T34 l (j : Int)).f0 > 11 by omega)]
      by_cases c3 : (rd_T34 l (j : Int)).f0 = 0
      · rw [if_pos c3, yes hb]
      · rw [if_neg c3, decide_eq_false (show ¬ (rd_T34 l (j : Int)).f0 ≤ last by omega), yes hb]
theorem rjoin_f (l : List S34) (hl : l.length ≤ 300) (hs : ∀ s ∈ l, s.f2.length ≤ 10000) : grommetref07_Join.f 1600 l = some (jnR (decide ((l.length : Int) ≤ 128)) (jn l 0 magic)) := by
  unfold grommetref07_Join.f
  rw [show grommetref07_Magic.f = some magic from rfl, Option.bind_some]
  have k := rjoin_l0 l hl hs l.length 0 1600 0 magic (by omega) (by omega) (by simp [magic]) (Int.le_refl _)
  rw [List.drop_zero] at k
  exact k
/-- Are sections few, and short? -/
theorem small_l0 (l : List S34) (hl : l.length ≤ 9223372036854775806) : ∀ (d j k : Nat) (n : Int), j + d = l.length → d < k → ∃ r, grommetlaw07_small.l0 k l n (j : Int) = some r ∧ (r = true → l.length ≤ 300 ∧ ∀ i, j ≤ i → i < l.length → (rd_T34 l (i : Int)).f2.length ≤ 10000)
  | 0, j, k, n, hj, hk => by
    obtain ⟨k, rfl⟩ : ∃ m, k = m + 1 := ⟨k - 1, by omega⟩
    rw [grommetlaw07_small.l0, if_neg (by omega)]
    by_cases h : (l.length : Int) ≤ 300
    · rw [if_pos h]; exact ⟨_, rfl, fun _ => ⟨by omega, fun i h1 h2 => by omega⟩⟩
    · rw [if_neg h]; exact ⟨_, rfl, fun h => by cases h⟩
  | d + 1, j, k, n, hj, hk => by
    obtain ⟨k, rfl⟩ : ∃ m, k = m + 1 := ⟨k - 1, by omega⟩
    rw [grommetlaw07_small.l0, if_pos (by omega), if_pos (by omega)]
    by_cases h : ((rd_T34 l (j : Int)).f2.length : Int) > 10000
    · rw [if_pos h]; exact ⟨_, rfl, fun h => by cases h⟩
    · rw [if_neg h, show wrap64 ((j : Int) + 1) = ((j + 1 : Nat) : Int) by unfold wrap64; omega]
      obtain ⟨r, h1, h2⟩ := small_l0 l hl d (j + 1) k (wrap64 (n + ((rd_T34 l (j : Int)).f2.length : Int))) (by omega) (by omega)
      refine ⟨r, h1, fun hr => ⟨(h2 hr).1, fun i hi hi2 => ?_⟩⟩
      rcases Nat.lt_or_ge j i with q | q
      · exact (h2 hr).2 i q hi2
      · obtain rfl : i = j := by omega
        omega
theorem small_f (l : List S34) (hl : l.length ≤ 9223372036854775806) : ∃ r, grommetlaw07_small.f (l.length + 1) l = some r ∧ (r = true → l.length ≤ 300 ∧ ∀ s ∈ l, s.f2.length ≤ 10000) := by
  obtain ⟨r, h1, h2⟩ := small_l0 l hl l.length 0 (l.length + 1) 0 (by omega) (by omega)
  refine ⟨r, h1, fun hr => ⟨(h2 hr).1, fun s hs => ?_⟩⟩
  obtain ⟨i, hi, rfl⟩ := List.getElem_of_mem hs
  have k := (h2 hr).2 i (Nat.zero_le _) hi
  unfold rd_T34 at k
  rw [Int.toNat_natCast, List.getD_eq_getElem?_getD, List.getElem?_eq_getElem hi] at k
  exact k
end Go.Proofs.YtibeoejnfpbcfaaDoor.Sx
