/- Plain facts on UTF-8: what is read is what would be written; a row of bytes behind another one. No program in sight. -/
import Derived.Test.YtagaihiemomelaaDoorNm1
import Derived.Test.YtagaihiemomelaaDoorNm2
set_option linter.unusedVariables false
set_option linter.unusedSimpArgs false
namespace Go.Proofs.YtagaihiemomelaaDoor.Nm
open Go.RowKit
theorem fin_yes {n c : Int} (h : (fin n c).2 ≠ 0) : isChar c = true ∧ width c = n ∧ fin n c = (c, n) := by
  unfold fin at h ⊢
  by_cases q : isChar c = true ∧ width c = n
  · rw [if_pos q] at h ⊢; exact ⟨q.1, q.2, rfl⟩
  · rw [if_neg q] at h; exact absurd rfl h
theorem enc1 {c : Int} (h : width c = 1) : enc c = [c] := by
  unfold width at h; unfold enc
  by_cases h1 : c < 128
  · rw [if_pos h1]
  · rw [if_neg h1] at h; split at h; omega; split at h <;> omega
theorem enc2 {c : Int} (h : width c = 2) : enc c = [192 + c / 64, 128 + c % 64] := by
  unfold width at h; unfold enc
  by_cases h1 : c < 128
  · rw [if_pos h1] at h; omega
  · rw [if_neg h1] at h ⊢
    by_cases h2 : c < 2048
    · rw [if_pos h2]
    · rw [if_neg h2] at h; split at h <;> omega
theorem enc3 {c : Int} (h : width c = 3) : enc c = [224 + c / 4096, 128 + c / 64 % 64, 128 + c % 64] := by
  unfold width at h; unfold enc
  by_cases h1 : c < 128
  · rw [if_pos h1] at h; omega
  · rw [if_neg h1] at h ⊢
    by_cases h2 : c < 2048
    · rw [if_pos h2] at h; omega
    · rw [if_neg h2] at h ⊢
      by_cases h3 : c < 65536
      · rw [if_pos h3]
      · rw [if_neg h3] at h; omega
theorem enc4 {c : Int} (h : width c = 4) : enc c = [240 + c / 262144, 128 + c / 4096 % 64, 128 + c / 64 % 64, 128 + c % 64] := by
  unfold width at h; unfold enc
  by_cases h1 : c < 128
  · rw [if_pos h1] at h; omega
  · rw [if_neg h1] at h ⊢
    by_cases h2 : c < 2048
    · rw [if_pos h2] at h; omega
    · rw [if_neg h2] at h ⊢
      by_cases h3 : c < 65536
      · rw [if_pos h3] at h; omega
      · rw [if_neg h3]
theorem width_of {c : Int} : width c = 1 ∨ width c = 2 ∨ width c = 3 ∨ width c = 4 := by
  unfold width; repeat' split
  all_goals simp
/-- What is read is what would be written. -/
theorem rdF_enc (l : List Int) (hb : Bytes l) (h : (rdF l).2 ≠ 0) : isChar (rdF l).1 = true ∧ enc (rdF l).1 = l.take (rdF l).2.toNat := by
  cases l with
  | nil => exact absurd rfl h
  | cons b t =>
    have hb0 := hb b (List.mem_cons_self ..)
    by_cases q : (lead b).1 = 0 ∨ ((t.length + 1 : Nat) : Int) < (lead b).1
    · simp only [rdF] at h; rw [if_pos q] at h; exact absurd rfl h
    · simp only [rdF] at h ⊢
      rw [if_neg q] at h ⊢
      by_cases b1 : b < 128
      · have hl : lead b = (1, b) := by unfold lead; rw [if_pos b1]
        rw [hl] at h ⊢
        obtain ⟨h1, h2, h3⟩ := fin_yes (n := 1) (c := b) h
        have e : go 1 b (t.take ((1 : Int).toNat - 1)) = (b, 1) := h3
        rw [e]
        exact ⟨h1, enc1 h2⟩
      · by_cases b2 : 192 ≤ b ∧ b < 224
        · have hl : lead b = (2, b - 192) := by unfold lead; rw [if_neg b1, if_pos b2]
          rw [hl] at h q ⊢
          match t, h, q, hb with
          | [], h, q, hb => exact absurd (Or.inr (by simp)) q
          | x :: r, h, q, hb =>
            have e : (x :: r).take ((2 : Int).toNat - 1) = [x] := rfl
            simp only [e, go] at h ⊢
            by_cases cx : cont x = true
            · rw [if_pos cx] at h ⊢
              have := cont_range cx
              obtain ⟨h1, h2, h3⟩ := fin_yes h
              rw [h3]
              refine ⟨h1, ?_⟩
              rw [enc2 h2]
              show _ = [b, x]
              rw [show 192 + ((b - 192) * 64 + (x - 128)) / 64 = b by omega, show 128 + ((b - 192) * 64 + (x - 128)) % 64 = x by omega]
            · rw [if_neg cx] at h; exact absurd rfl h
        · by_cases b3 : 224 ≤ b ∧ b < 240
          · have hl : lead b = (3, b - 224) := by unfold lead; rw [if_neg b1, if_neg b2, if_pos b3]
            rw [hl] at h q ⊢
            match t, h, q, hb with
            | [], h, q, hb => exact absurd (Or.inr (by simp)) q
            | [_], h, q, hb => exact absurd (Or.inr (by simp)) q
            | x :: y :: r, h, q, hb =>
              have e : (x :: y :: r).take ((3 : Int).toNat - 1) = [x, y] := rfl
              simp only [e, go] at h ⊢
              by_cases cx : cont x = true
              · rw [if_pos cx] at h ⊢
                by_cases cy : cont y = true
                · rw [if_pos cy] at h ⊢
                  have := cont_range cx
                  have := cont_range cy
                  obtain ⟨h1, h2, h3⟩ := fin_yes h
                  rw [h3]
                  refine ⟨h1, ?_⟩
                  rw [enc3 h2]
                  show _ = [b, x, y]
                  rw [show 224 + (((b - 224) * 64 + (x - 128)) * 64 + (y - 128)) / 4096 = b by omega, show 128 + (((b - 224) * 64 + (x - 128)) * 64 + (y - 128)) / 64 % 64 = x by omega, show 128 + (((b - 224) * 64 + (x - 128)) * 64 + (y - 128)) % 64 = y by omega]
                · rw [if_neg cy] at h; exact absurd rfl h
              · rw [if_neg cx] at h; exact absurd rfl h
          · by_cases b4 : 240 ≤ b ∧ b < 248
            · have hl : lead b = (4, b - 240) := by unfold lead; rw [if_neg b1, if_neg b2, if_neg b3, if_pos b4]
              rw [hl] at h q ⊢
              match t, h, q, hb with
              | [], h, q, hb => exact absurd (Or.inr (by simp)) q
              | [_], h, q, hb => exact absurd (Or.inr (by simp)) q
              | [_, _], h, q, hb => exact absurd (Or.inr (by simp)) q
              | x :: y :: z :: r, h, q, hb =>
                have e : (x :: y :: z :: r).take ((4 : Int).toNat - 1) = [x, y, z] := rfl
                simp only [e, go] at h ⊢
                by_cases cx : cont x = true
                · rw [if_pos cx] at h ⊢
                  by_cases cy : cont y = true
                  · rw [if_pos cy] at h ⊢
                    by_cases cz : cont z = true
                    · rw [if_pos cz] at h ⊢
                      have := cont_range cx
                      have := cont_range cy
                      have := cont_range cz
                      obtain ⟨h1, h2, h3⟩ := fin_yes h
                      rw [h3]
                      refine ⟨h1, ?_⟩
                      rw [enc4 h2]
                      show _ = [b, x, y, z]
                      rw [show 240 + ((((b - 240) * 64 + (x - 128)) * 64 + (y - 128)) * 64 + (z - 128)) / 262144 = b by omega, show 128 + ((((b - 240) * 64 + (x - 128)) * 64 + (y - 128)) * 64 + (z - 128)) / 4096 % 64 = x by omega, show 128 + ((((b - 240) * 64 + (x - 128)) * 64 + (y - 128)) * 64 + (z - 128)) / 64 % 64 = y by omega, show 128 + ((((b - 240) * 64 + (x - 128)) * 64 + (y - 128)) * 64 + (z - 128)) % 64 = z by omega]
                    · rw [if_neg cz] at h; exact absurd rfl h
                  · rw [if_neg cy] at h; exact absurd rfl h
                · rw [if_neg cx] at h; exact absurd rfl h
            · exact absurd (Or.inl (by unfold lead; rw [if_neg b1, if_neg b2, if_neg b3, if_neg b4])) q
/-- What is written is read as it was, whatever stands behind. -/
theorem enc_rdF (c : Int) (h : isChar c = true) (m : List Int) : rdF (enc c ++ m) = (c, width c) := by
  obtain ⟨c0, c1, c2⟩ := char_range h
  have hf : fin (width c) c = (c, width c) := by unfold fin; rw [if_pos ⟨h, rfl⟩]
  have ct : ∀ x : Int, cont (128 + x % 64) = true := fun x => by unfold cont; simp; omega
  rcases width_of (c := c) with hw | hw | hw | hw
  · rw [enc1 hw]
    have hc : c < 128 := by unfold width at hw; by_cases h1 : c < 128; exact h1; rw [if_neg h1] at hw; split at hw; omega; split at hw <;> omega
    have hl : lead c = (1, c) := by unfold lead; rw [if_pos hc]
    show rdF (c :: m) = _
    simp only [rdF, hl]
    rw [if_neg (by simp; omega)]
    rw [hw] at hf ⊢
    exact hf
  · rw [enc2 hw]
    have hc : 128 ≤ c ∧ c < 2048 := by
      unfold width at hw
      by_cases h1 : c < 128
      · rw [if_pos h1] at hw; omega
      · rw [if_neg h1] at hw
        by_cases h2 : c < 2048
        · omega
        · rw [if_neg h2] at hw; split at hw <;> omega
    have hl : lead (192 + c / 64) = (2, c / 64) := by unfold lead; rw [if_neg (by omega), if_pos (by omega)]; simp; omega
    show rdF ((192 + c / 64) :: (128 + c % 64) :: m) = _
    simp only [rdF, hl]
    rw [if_neg (by simp; omega)]
    show go 2 (c / 64) [128 + c % 64] = _
    simp only [go]
    rw [if_pos (ct c), show c / 64 * 64 + (128 + c % 64 - 128) = c by omega]
    rw [hw] at hf ⊢
    exact hf
  · rw [enc3 hw]
    have hc : 2048 ≤ c ∧ c < 65536 := by
      unfold width at hw
      by_cases h1 : c < 128
      · rw [if_pos h1] at hw; omega
      · rw [if_neg h1] at hw
        by_cases h2 : c < 2048
        · rw [if_pos h2] at hw; omega
        · rw [if_neg h2] at hw
          by_cases h3 : c < 65536
          · omega
          · rw [if_neg h3] at hw; omega
    have hl : lead (224 + c / 4096) = (3, c / 4096) := by unfold lead; rw [if_neg (by omega), if_neg (by omega), if_pos (by omega)]; simp; omega
    show rdF ((224 + c / 4096) :: (128 + c / 64 % 64) :: (128 + c % 64) :: m) = _
    simp only [rdF, hl]
    rw [if_neg (by simp; omega)]
    show go 3 (c / 4096) [128 + c / 64 % 64, 128 + c % 64] = _
    simp only [go]
    rw [if_pos (ct (c / 64)), if_pos (ct c), show (c / 4096 * 64 + (128 + c / 64 % 64 - 128)) * 64 + (128 + c % 64 - 128) = c by omega]
    rw [hw] at hf ⊢
    exact hf
  · rw [enc4 hw]
    have hc : 65536 ≤ c := by
      unfold width at hw
      by_cases h1 : c < 128
      · rw [if_pos h1] at hw; omega
      · rw [if_neg h1] at hw
        by_cases h2 : c < 2048
        · rw [if_pos h2] at hw; omega
        · rw [if_neg h2] at hw
          by_cases h3 : c < 65536
          · rw [if_pos h3] at hw; omega
          · omega
    have hl : lead (240 + c / 262144) = (4, c / 262144) := by unfold lead; rw [if_neg (by omega), if_neg (by omega), if_neg (by omega), if_pos (by omega)]; simp; omega
    show rdF ((240 + c / 262144) :: (128 + c / 4096 % 64) :: (128 + c / 64 % 64) :: (128 + c % 64) :: m) = _
    simp only [rdF, hl]
    rw [if_neg (by simp; omega)]
    show go 4 (c / 262144) [128 + c / 4096 % 64, 128 + c / 64 % 64, 128 + c % 64] = _
    simp only [go]
    rw [if_pos (ct (c / 4096)), if_pos (ct (c / 64)), if_pos (ct c), show ((c / 262144 * 64 + (128 + c / 4096 % 64 - 128)) * 64 + (128 + c / 64 % 64 - 128)) * 64 + (128 + c % 64 - 128) = c by omega]
    rw [hw] at hf ⊢
    exact hf
theorem enc_length (c : Int) : ((enc c).length : Int) = width c := by
  rcases width_of (c := c) with hw | hw | hw | hw
  · rw [enc1 hw, hw]; rfl
  · rw [enc2 hw, hw]; rfl
  · rw [enc3 hw, hw]; rfl
  · rw [enc4 hw, hw]; rfl
theorem rdF_append (l m : List Int) (h : (rdF l).2 ≠ 0) : rdF (l ++ m) = rdF l := by
  cases l with
  | nil => exact absurd rfl h
  | cons b t =>
    simp only [rdF, List.cons_append] at h ⊢
    by_cases q : (lead b).1 = 0 ∨ ((t.length + 1 : Nat) : Int) < (lead b).1
    · rw [if_pos q] at h; exact absurd rfl h
    · rw [if_neg q, if_neg (by rintro (e | e); exact q (Or.inl e); exact q (Or.inr (by simp at e ⊢; omega)))]
      rw [List.take_append_of_le_length (by have : ¬ ((t.length + 1 : Nat) : Int) < (lead b).1 := fun e => q (Or.inr e); omega)]
/-- The characters of bytes, or the first place where there is none. -/
def dec (l : List Int) : Except Nat (List Int) :=
  if hl : l = [] then .ok [] else if hz : (rdF l).2 = 0 then .error 0 else
    match dec (l.drop (rdF l).2.toNat) with
    | .ok cs => .ok ((rdF l).1 :: cs)
    | .error i => .error ((rdF l).2.toNat + i)
termination_by l.length
decreasing_by
  have := rdF_n l
  have : 0 < l.length := by cases l with | nil => exact absurd rfl hl | cons => simp
  simp only [List.length_drop]
  omega
def sh (at_ : Nat) (out : List Int) : Except Nat (List Int) → Except Nat (List Int)
  | .ok cs => .ok (out ++ cs)
  | .error i => .error (at_ + i)
theorem chs_dec : ∀ (f : Nat) (l : List Int) (at_ : Nat) (out : List Int), at_ ≤ l.length → l.length - at_ < f → chs f l at_ out = sh at_ out (dec (l.drop at_))
  | 0, l, at_, out, h1, h2 => absurd h2 (Nat.not_lt_zero _)
  | f + 1, l, at_, out, h1, h2 => by
    rw [chs, dec]
    by_cases h : l.length ≤ at_
    · rw [if_pos h, dif_pos (by simp; omega)]; simp [sh]
    · rw [if_neg h, dif_neg (by simp; omega)]
      by_cases z : (rdF (l.drop at_)).2 = 0
      · rw [if_pos z, dif_pos z]; rfl
      · rw [if_neg z, dif_neg z]
        have hn := rdF_n (l.drop at_)
        simp only [List.length_drop] at hn
        rw [chs_dec f l _ _ (by omega) (by omega), List.drop_drop]
        cases dec (l.drop (at_ + (rdF (l.drop at_)).2.toNat)) with
        | ok cs => simp [sh]
        | error i => simp [sh]; omega
theorem chars_dec (l : List Int) : chars l = dec l := by
  unfold chars
  rw [chs_dec _ l 0 [] (Nat.zero_le _) (by omega), List.drop_zero]
  cases dec l with
  | ok cs => simp [sh]
  | error i => simp [sh]
theorem dec_append : ∀ (k : Nat) (a b cs : List Int), a.length ≤ k → dec a = .ok cs → dec (a ++ b) = sh a.length cs (dec b)
  | k, a, b, cs, hk, h => by
    rw [dec] at h
    by_cases ha : a = []
    · subst ha
      rw [dif_pos rfl] at h
      injection h with h
      subst h
      cases hb : dec b with
      | ok ds => simp [sh, hb]
      | error i => simp [sh, hb]
    · rw [dif_neg ha] at h
      by_cases z : (rdF a).2 = 0
      · rw [dif_pos z] at h; cases h
      · rw [dif_neg z] at h
        have hn := rdF_n a
        have hpos : 0 < a.length := by cases a with | nil => exact absurd rfl ha | cons => simp
        match k, hk with
        | 0, hk => omega
        | k + 1, hk =>
          have ih := dec_append k (a.drop (rdF a).2.toNat) b
          cases hd : dec (a.drop (rdF a).2.toNat) with
          | error i => rw [hd] at h; cases h
          | ok ds =>
            rw [hd] at h
            injection h with h
            subst h
            have ih := ih ds (by simp only [List.length_drop]; omega) hd
            rw [dec, dif_neg (by simp [ha]), rdF_append a b z, dif_neg z, List.drop_append_of_le_length (by omega), ih]
            cases dec b with
            | ok es => simp [sh]
            | error i => simp [sh, List.length_drop]; omega
/-- What was read, put one behind the other, is those bytes. -/
theorem dec_enc : ∀ (k : Nat) (l cs : List Int), l.length ≤ k → Bytes l → dec l = .ok cs → (∀ c ∈ cs, isChar c = true) ∧ cs.flatMap enc = l
  | k, l, cs, hk, hb, h => by
    rw [dec] at h
    by_cases ha : l = []
    · subst ha
      rw [dif_pos rfl] at h
      injection h with h
      subst h
      exact ⟨fun _ h => (by cases h), rfl⟩
    · rw [dif_neg ha] at h
      by_cases z : (rdF l).2 = 0
      · rw [dif_pos z] at h; cases h
      · rw [dif_neg z] at h
        have hn := rdF_n l
        have hpos : 0 < l.length := by cases l with | nil => exact absurd rfl ha | cons => simp
        match k, hk with
        | 0, hk => omega
        | k + 1, hk =>
          have ih := dec_enc k (l.drop (rdF l).2.toNat)
          cases hd : dec (l.drop (rdF l).2.toNat) with
          | error i => rw [hd] at h; cases h
          | ok ds =>
            rw [hd] at h
            injection h with h
            subst h
            obtain ⟨i1, i2⟩ := ih ds (by simp only [List.length_drop]; omega) (fun x hx => hb x (List.mem_of_mem_drop hx)) hd
            obtain ⟨e1, e2⟩ := rdF_enc l hb z
            refine ⟨fun c hc => ?_, ?_⟩
            · rcases List.mem_cons.1 hc with rfl | hc
              · exact e1
              · exact i1 c hc
            · rw [List.flatMap_cons, i2, e2, List.take_append_drop]
theorem dec_one (c : Int) (h : isChar c = true) : dec (enc c) = .ok [c] := by
  have hr := enc_rdF c h []
  rw [List.append_nil] at hr
  have hl := enc_length c
  have hw := width_of (c := c)
  rw [dec, dif_neg (by intro e; rw [e] at hl; simp at hl; omega), dif_neg (by rw [hr]; simp only; omega), hr]
  have hd : (enc c).drop (width c).toNat = [] := by rw [List.drop_eq_nil_iff]; omega
  simp only [hd]
  rw [dec, dif_pos rfl]
theorem enc_bytes (c : Int) (h : isChar c = true) : Bytes (enc c) := by
  obtain ⟨c0, c1, c2⟩ := char_range h
  intro x hx
  unfold enc at hx
  split at hx
  · simp at hx; omega
  · split at hx
    · simp at hx; omega
    · split at hx
      · simp at hx; omega
      · simp at hx; omega
end Go.Proofs.YtagaihiemomelaaDoor.Nm
