/- Plain facts: what Join writes; it split again; what was split, joined; one section more. -/
import Derived.Test.YtibeoejnfpbcfaaDoorSx8
namespace Go.Proofs.YtibeoejnfpbcfaaDoor.Sx
open Go.RowKit Go.Proofs.YtibeoejnfpbcfaaDoorW.PrintWords Go.Proofs.YtibeoejnfpbcfaaDoorW.PrintLast Go.Proofs.YtibeoejnfpbcfaaDoorW.PrintMore Go.Proofs.YtibeoejnfpbcfaaDoor.RSectSplits Go.Proofs.YtibeoejnfpbcfaaDoor.Leb Go.Proofs.YtibeoejnfpbcfaaDoor.Man
set_option linter.unusedVariables false
set_option linter.unusedSimpArgs false
/-- What Join writes of sections behind what it has written. -/
def jn : List S34 → Int → List Int → Option (List Int)
  | [], _, out => some out
  | s :: r, last, out => if s.f0 < 0 ∨ 11 < s.f0 ∨ (0 < s.f0 ∧ s.f0 ≤ last) then none else jn r (mx last s.f0) (out ++ s.f0 :: (encU s.f2.length ++ s.f2))
def joins (l : List S34) : Option (List Int) := if 128 < l.length then none else jn l 0 magic
def keys (l : List S34) : List (Int × List Int) := l.map fun s => (s.f0, s.f2)
theorem jn_prefix : ∀ (l : List S34) (last : Int) (out p : List Int), jn l last out = some p → ∃ t, p = out ++ t
  | [], last, out, p, h => ⟨[], by rw [jn] at h; injection h with h; rw [h, List.append_nil]⟩
  | s :: r, last, out, p, h => by
    rw [jn] at h
    split at h
    · cases h
    · obtain ⟨t, ht⟩ := jn_prefix r _ _ p h
      exact ⟨s.f0 :: (encU s.f2.length ++ s.f2) ++ t, by rw [ht, List.append_assoc]⟩
theorem rd_mid (a b : List Int) (x : Int) : rd (a ++ x :: b) (a.length : Int) = x := by
  unfold rd
  rw [Int.toNat_natCast, List.getD_eq_getElem?_getD, List.getElem?_append_right (Nat.le_refl _), Nat.sub_self]
  rfl
theorem enc5 {n : Nat} (h : n < 4294967296) : (encU n).length ≤ 5 := encU_len 5 n (by decide) (Nat.lt_trans h (by decide))
theorem spl_jn : ∀ (l : List S34) (last : Int) (pre p : List Int) (out : List S34) (f : Nat), jn l last pre = some p → (∀ s ∈ l, s.f2.length < 4294967296) → out.length + l.length ≤ 128 → p.length + 1 ≤ f + pre.length →
    ∃ cs, spl f p pre.length last out = .ok (out ++ cs) ∧ keys cs = keys l
  | [], last, pre, p, out, f, h, hs, hl, hf => by
    rw [jn] at h
    injection h with h
    subst h
    refine ⟨[], ?_, rfl⟩
    rw [List.append_nil]
    cases f with
    | zero => rfl
    | succ f => rw [spl, if_pos (Nat.le_refl _)]
  | s :: r, last, pre, p, out, f, h, hs, hl, hf => by
    rw [jn] at h
    by_cases hb : s.f0 < 0 ∨ 11 < s.f0 ∨ (0 < s.f0 ∧ s.f0 ≤ last)
    · rw [if_pos hb] at h; cases h
    · rw [if_neg hb] at h
      obtain ⟨t, ht⟩ := jn_prefix r _ _ p h
      have hn := hs s (List.mem_cons_self ..)
      have e5 := enc5 hn
      have ep := encU_pos s.f2.length
      obtain ⟨n, hnn⟩ : ∃ n, n = s.f2.length := ⟨_, rfl⟩
      have e0 : p = pre ++ s.f0 :: (encU n ++ (s.f2 ++ t)) := by rw [ht, hnn]; simp [List.append_assoc]
      have hpl : p.length = pre.length + (1 + ((encU n).length + (n + t.length))) := by rw [e0]; simp [hnn]; omega
      rw [← hnn] at hn e5 ep
      obtain ⟨f, rfl⟩ : ∃ k, f = k + 1 := ⟨f - 1, by omega⟩
      have hrd : rd p (pre.length : Int) = s.f0 := by rw [e0]; exact rd_mid _ _ _
      have hdr : p.drop (pre.length + 1) = encU n ++ (s.f2 ++ t) := by
        rw [e0, show pre ++ s.f0 :: (encU n ++ (s.f2 ++ t)) = (pre ++ [s.f0]) ++ (encU n ++ (s.f2 ++ t)) by simp, List.drop_left' (by simp)]
      have hrU : rdU p (pre.length + 1) = some (n, pre.length + 1 + (encU n).length) := by
        unfold rdU
        rw [hdr, scan_encU n (s.f2 ++ t) 5 e5]
        simp only
        rw [if_pos (Nat.lt_of_lt_of_le hn (by decide))]
      have hcut : (p.take (pre.length + 1 + (encU n).length + n)).drop (pre.length + 1 + (encU n).length) = s.f2 := by
        have e1 : p = ((pre ++ s.f0 :: encU n) ++ s.f2) ++ t := by rw [e0]; simp [List.append_assoc]
        rw [e1, List.take_left' (by simp [hnn]; omega), List.drop_left' (by simp; omega)]
      have hpre : (pre ++ s.f0 :: (encU n ++ s.f2)).length = pre.length + 1 + (encU n).length + n := by simp [hnn]; omega
      rw [← hnn] at h
      simp only [List.length_cons] at hl
      obtain ⟨cs, h1, h2⟩ := spl_jn r (mx last s.f0) (pre ++ s.f0 :: (encU n ++ s.f2)) p (out ++ [⟨s.f0, ((pre.length + 1 + (encU n).length : Nat) : Int), s.f2⟩]) f h (fun x hx => hs x (List.mem_cons_of_mem _ hx)) (by simp; omega) (by rw [hpre]; omega)
      refine ⟨⟨s.f0, ((pre.length + 1 + (encU n).length : Nat) : Int), s.f2⟩ :: cs, ?_, ?_⟩
      · rw [spl, if_neg (by omega), hrd, if_neg (by rintro (q | q); exact hb (Or.inr (Or.inl q)); exact hb (Or.inr (Or.inr q))), if_neg (by omega), hrU]
        simp only
        rw [if_neg (by omega), hcut, ← hpre, h1]
        simp
      · unfold keys at h2 ⊢
        rw [List.map_cons, List.map_cons, h2]
theorem isMod_magic (t : List Int) : isMod (magic ++ t) = true := by
  rw [isMod_great (by simp [magic])]
  rw [show (magic ++ t).take 8 = [0, 97, 115, 109, 1, 0, 0, 0] from rfl]
  exact beq_self_eq_true _
theorem split_joins {l : List S34} {p : List Int} (h : joins l = some p) (hs : ∀ s ∈ l, s.f2.length < 4294967296) : ∃ cs, split p = .ok cs ∧ keys cs = keys l := by
  unfold joins at h
  split at h
  · cases h
  · rename_i h128
    obtain ⟨t, ht⟩ := jn_prefix l 0 magic p h
    obtain ⟨cs, h1, h2⟩ := spl_jn l 0 magic p [] (p.length + 1) h hs (by simp; omega) (by omega)
    refine ⟨cs, ?_, h2⟩
    unfold split
    rw [ht, isMod_magic, if_pos rfl, ← ht]
    simpa [magic] using h1
/-- How long it is. -/
theorem jn_len : ∀ (l : List S34) (last : Int) (out p : List Int) (M : Nat), (∀ s ∈ l, s.f2.length ≤ M) → M < 4294967296 → jn l last out = some p → p.length ≤ out.length + (6 + M) * l.length
  | [], last, out, p, M, hs, hM, h => by rw [jn] at h; injection h with h; rw [h]; simp
  | s :: r, last, out, p, M, hs, hM, h => by
    rw [jn] at h
    split at h
    · cases h
    · have k := jn_len r _ _ p M (fun x hx => hs x (List.mem_cons_of_mem _ hx)) hM h
      have hn := hs s (List.mem_cons_self ..)
      have e5 := enc5 (n := s.f2.length) (by omega)
      rw [List.length_cons, Nat.mul_succ]
      simp only [List.length_append, List.length_cons] at k
      omega
theorem jn_bytes : ∀ (l : List S34) (last : Int) (out p : List Int), (∀ s ∈ l, Bytes s.f2) → Bytes out → jn l last out = some p → Bytes p
  | [], last, out, p, hs, ho, h => by rw [jn] at h; injection h with h; rw [← h]; exact ho
  | s :: r, last, out, p, hs, ho, h => by
    rw [jn] at h
    split at h
    · cases h
    · rename_i hb
      refine jn_bytes r _ _ p (fun x hx => hs x (List.mem_cons_of_mem _ hx)) (ho.append ?_) h
      intro x hx
      rcases List.mem_cons.1 hx with rfl | hx
      · omega
      · exact ((encU_bytes _).append (hs s (List.mem_cons_self ..))) x hx
theorem magic_bytes : Bytes magic := by
  intro x hx
  simp [magic] at hx
  omega
theorem joins_facts {l : List S34} {p : List Int} (h : joins l = some p) {M : Nat} (hs : ∀ s ∈ l, s.f2.length ≤ M) (hM : M < 4294967296) (hb : ∀ s ∈ l, Bytes s.f2) : p.length ≤ 8 + (6 + M) * 128 ∧ Bytes p := by
  unfold joins at h
  split at h
  · cases h
  · rename_i h128
    refine ⟨?_, jn_bytes l 0 magic p hb magic_bytes h⟩
    have k := jn_len l 0 magic p M hs hM h
    have : (6 + M) * l.length ≤ (6 + M) * 128 := Nat.mul_le_mul_left _ (by omega)
    have e : magic.length = 8 := rfl
    omega
/-- What was split may be joined, and is no longer then. -/
theorem jn_spl (b : List Int) (hb : Bytes b) : ∀ (f at_ : Nat) (last : Int) (out r : List S34), spl f b at_ last out = .ok r → at_ ≤ b.length →
    ∃ cs, r = out ++ cs ∧ (∀ pre, ∃ p, jn cs last pre = some p ∧ p.length + at_ ≤ pre.length + b.length) ∧ ∀ s ∈ cs, s.f2.length ≤ b.length ∧ Bytes s.f2
  | 0, at_, last, out, r, h, ha => by
    rw [spl] at h
    injection h with h
    exact ⟨[], by rw [List.append_nil, h], fun pre => ⟨pre, rfl, by omega⟩, fun s hs => by cases hs⟩
  | f + 1, at_, last, out, r, h, ha => by
    rw [spl] at h
    split at h
    · injection h with h
      exact ⟨[], by rw [List.append_nil, h], fun pre => ⟨pre, rfl, by omega⟩, fun s hs => by cases hs⟩
    · rename_i hlt
      split at h
      · cases h
      · rename_i hid
        split at h
        · cases h
        · cases hu : rdU b (at_ + 1) with
          | none => rw [hu] at h; cases h
          | some q =>
            obtain ⟨n, nx⟩ := q
            rw [hu] at h
            simp only at h
            split at h
            · cases h
            · rename_i hn
              obtain ⟨u1, u2, u3⟩ := rdU_facts hb (by omega) hu
              have hlen : (encU n).length ≤ nx - (at_ + 1) := by
                unfold rdU at hu
                cases hs : scan 5 (b.drop (at_ + 1)) with
                | none => rw [hs] at hu; cases hu
                | some q =>
                  obtain ⟨D, N⟩ := q
                  rw [hs] at hu
                  simp only at hu
                  split at hu
                  · injection hu with hu
                    injection hu with h1 h2
                    obtain ⟨f1, f2, f3, f4, _⟩ := scan_facts 5 (b.drop (at_ + 1)) (hb.drop _) D N hs
                    subst h1
                    have := encU_len N D f1 f4
                    omega
                  · cases hu
              obtain ⟨cs, h1, h2, h3⟩ := jn_spl b hb f (nx + n) _ _ r h (by omega)
              have hml : ((b.take (nx + n)).drop nx).length = n := by rw [List.length_drop, List.length_take]; omega
              have hid0 := QSect.rd_bytes hb (at_ : Int)
              refine ⟨⟨rd b (at_ : Int), (nx : Int), (b.take (nx + n)).drop nx⟩ :: cs, by rw [h1]; simp, fun pre => ?_, ?_⟩
              · obtain ⟨p, hp, hpl⟩ := h2 (pre ++ rd b (at_ : Int) :: (encU n ++ (b.take (nx + n)).drop nx))
                refine ⟨p, ?_, ?_⟩
                · rw [jn, if_neg (by rintro (q | q | q); exact absurd hid0.1 (Int.not_le.2 q); exact hid (Or.inl q); exact hid (Or.inr q))]
                  simp only [hml]
                  exact hp
                · simp only [List.length_append, List.length_cons, hml] at hpl
                  omega
              · intro s hs
                rcases List.mem_cons.1 hs with rfl | hs
                · exact ⟨by rw [hml]; omega, fun x hx => hb x (List.mem_of_mem_take (List.mem_of_mem_drop hx))⟩
                · exact h3 s hs
theorem joins_split {b : List Int} {k : List S34} (hb : Bytes b) (h : split b = .ok k) : ∃ q, joins k = some q ∧ q.length ≤ b.length ∧ ∀ s ∈ k, s.f2.length ≤ b.length ∧ Bytes s.f2 := by
  have hk := split_len h
  unfold split at h
  split at h
  · rename_i hm
    have h8 : 8 ≤ b.length := by
      rcases Nat.lt_or_ge b.length 8 with q | q
      · rw [isMod_small q] at hm; cases hm
      · exact q
    obtain ⟨cs, h1, h2, h3⟩ := jn_spl b hb _ 8 0 [] k h h8
    rw [List.nil_append] at h1
    subst h1
    obtain ⟨p, hp, hl⟩ := h2 magic
    have e : magic.length = 8 := rfl
    exact ⟨p, by unfold joins; rw [if_neg (by omega)]; exact hp, by omega, h3⟩
  · cases h
/-- One section more. -/
theorem scan_more : ∀ (k : Nat) (l m : List Int) (r : Nat × Nat), scan k l = some r → scan k (l ++ m) = some r
  | 0, l, m, r, h => by cases l <;> simp [scan] at h
  | k + 1, [], m, r, h => by simp [scan] at h
  | k + 1, x :: l, m, r, h => by
    rw [scan] at h
    rw [List.cons_append, scan]
    by_cases hx : x < 128
    · rw [if_pos hx] at h ⊢; exact h
    · rw [if_neg hx] at h ⊢
      cases hs : scan k l with
      | none => rw [hs] at h; simp at h
      | some q => rw [hs] at h; rw [scan_more k l m q hs]; exact h
theorem spl_more (b bs : List Int) (hb : Bytes b) (hn : bs.length < 128) : ∀ (f at_ : Nat) (last : Int) (out r : List S34) (f' : Nat), spl f b at_ last out = .ok r → at_ ≤ b.length → r.length < 128 → b.length + 1 ≤ f + at_ → f + 1 ≤ f' → 
    spl f' (b ++ 0 :: (bs.length : Int) :: bs) at_ last out = .ok (r ++ [⟨0, ((b.length + 2 : Nat) : Int), bs⟩])
  | 0, at_, last, out, r, f', h, ha, hr, hf, hf' => by omega
  | f + 1, at_, last, out, r, f', h, ha, hr, hf, hf' => by
    obtain ⟨f', rfl⟩ : ∃ k, f' = k + 1 + 1 := ⟨f' - 2, by omega⟩
    obtain ⟨B, hB⟩ : ∃ B, B = b ++ 0 :: (bs.length : Int) :: bs := ⟨_, rfl⟩
    have hBl : B.length = b.length + 2 + bs.length := by rw [hB]; simp; omega
    rw [← hB]
    rw [spl] at h
    by_cases hge : b.length ≤ at_
    · rw [if_pos hge] at h
      injection h with h
      subst h
      obtain rfl : at_ = b.length := by omega
      have h0 : rd B (b.length : Int) = 0 := by rw [hB]; exact rd_mid _ _ _
      have hd : B.drop (b.length + 1) = (bs.length : Int) :: bs := by
        rw [hB, show b ++ 0 :: (bs.length : Int) :: bs = (b ++ [0]) ++ ((bs.length : Int) :: bs) by simp, List.drop_left' (by simp)]
      have hu : rdU B (b.length + 1) = some (bs.length, b.length + 1 + 1) := by
        unfold rdU
        rw [hd, scan, if_pos (by omega)]
        simp only [Int.toNat_natCast]
        rw [if_pos (Nat.lt_trans hn (by decide))]
      have hcut : (B.take (b.length + 1 + 1 + bs.length)).drop (b.length + 1 + 1) = bs := by
        rw [List.take_of_length_le (by omega), hB, show b ++ 0 :: (bs.length : Int) :: bs = (b ++ [0, (bs.length : Int)]) ++ bs by simp, List.drop_left' (by simp)]
      rw [spl, if_neg (by omega), h0, if_neg (by omega), if_neg (by omega), hu]
      simp only
      rw [if_neg (by omega), hcut, spl, if_pos (by omega)]
    · rw [if_neg hge] at h
      have h0 : rd B (at_ : Int) = rd b (at_ : Int) := by
        unfold rd
        rw [hB, Int.toNat_natCast, List.getD_eq_getElem?_getD, List.getD_eq_getElem?_getD, List.getElem?_append_left (by omega)]
      split at h
      · cases h
      · rename_i hid
        split at h
        · cases h
        · rename_i h128
          cases hu : rdU b (at_ + 1) with
          | none => rw [hu] at h; cases h
          | some q =>
            obtain ⟨n, nx⟩ := q
            rw [hu] at h
            simp only at h
            split at h
            · cases h
            · rename_i hnn
              obtain ⟨u1, u2, u3⟩ := rdU_facts hb (by omega) hu
              have hu' : rdU B (at_ + 1) = some (n, nx) := by
                unfold rdU at hu ⊢
                cases hs : scan 5 (b.drop (at_ + 1)) with
                | none => rw [hs] at hu; cases hu
                | some q =>
                  rw [hs] at hu
                  rw [hB, List.drop_append_of_le_length (by omega), scan_more 5 _ _ q hs]
                  exact hu
              have hcut : (B.take (nx + n)).drop nx = (b.take (nx + n)).drop nx := by
                rw [hB, List.take_append_of_le_length (by omega)]
              have ih := spl_more b bs hb hn f (nx + n) _ _ r (f' + 1) h (by omega) hr (by omega) (by omega)
              rw [← hB] at ih
              rw [spl, if_neg (by omega), h0, if_neg hid, if_neg h128, hu']
              simp only
              rw [if_neg (by omega), hcut]
              exact ih
theorem split_more {b bs : List Int} {l : List S34} (hb : Bytes b) (hn : bs.length < 128) (h : split b = .ok l) (hl : l.length < 128) : split (b ++ 0 :: (bs.length : Int) :: bs) = .ok (l ++ [⟨0, ((b.length + 2 : Nat) : Int), bs⟩]) := by
  unfold split at h
  split at h
  · rename_i hm
    have h8 : 8 ≤ b.length := by
      rcases Nat.lt_or_ge b.length 8 with q | q
      · rw [isMod_small q] at hm; cases hm
      · exact q
    have hm' : isMod (b ++ 0 :: (bs.length : Int) :: bs) = true := by
      rw [isMod_great (by omega)] at hm
      rw [isMod_great (by simp; omega), List.take_append_of_le_length h8]
      exact hm
    unfold split
    rw [hm', if_pos rfl]
    exact spl_more b bs hb hn (b.length + 1) 8 0 [] l _ h h8 hl (by omega) (by simp)
  · cases h
/-- Same of two lists that are the same but for At. -/
theorem keys_len {a b : List S34} (h : keys a = keys b) : a.length = b.length := by
  have := congrArg List.length h
  simpa [keys] using this
theorem keys_at {a b : List S34} (h : keys a = keys b) (j : Nat) : (rd_T34 a (j : Int)).f0 = (rd_T34 b (j : Int)).f0 ∧ (rd_T34 a (j : Int)).f2 = (rd_T34 b (j : Int)).f2 := by
  unfold rd_T34
  rw [Int.toNat_natCast]
  have e : ∀ l : List S34, (fun s : S34 => (s.f0, s.f2)) (l.getD j z34) = (keys l).getD j (z34.f0, z34.f2) := by
    intro l
    unfold keys
    rw [List.getD_eq_getElem?_getD, List.getD_eq_getElem?_getD, List.getElem?_map]
    cases l[j]? <;> rfl
  have k := (e a).trans ((congrArg (fun z => z.getD j (z34.f0, z34.f2)) h).trans (e b).symm)
  exact ⟨congrArg Prod.fst k, congrArg Prod.snd k⟩
theorem samek_l0 (a b : List S34) (h : keys a = keys b) (hL : a.length ≤ 100000) : ∀ (f j : Nat), j ≤ a.length → a.length - j < f → grommetref07_Same.l0 f a b (j : Int) = some true
  | 0, j, h1, h2 => absurd h2 (Nat.not_lt_zero _)
  | f + 1, j, h1, h2 => by
    have hl := keys_len h
    rw [grommetref07_Same.l0]
    by_cases hj : j < a.length
    · have e : wrap64 ((j : Int) + 1) = ((j + 1 : Nat) : Int) := wr_next j (Nat.le_trans h1 (Nat.le_trans hL (by decide)))
      obtain ⟨k1, k2⟩ := keys_at h j
      rw [if_pos (Int.ofNat_lt.2 hj), if_pos (Int.natCast_nonneg _), if_pos (by omega), if_pos k1, if_pos (by rw [k2]), e]
      exact samek_l0 a b h hL f (j + 1) hj (by omega)
    · rw [if_neg (fun q => hj (Int.ofNat_lt.1 q))]
theorem same_keys (a b : List S34) (h : keys a = keys b) (hL : a.length ≤ 100000) : grommetref07_Same.f (a.length + 1) a b = some true := by
  unfold grommetref07_Same.f
  rw [if_pos (by rw [keys_len h])]
  exact samek_l0 a b h hL _ 0 (Nat.zero_le _) (by omega)
end Go.Proofs.YtibeoejnfpbcfaaDoor.Sx
