/- Plain facts on UTF-8: the document's reading ('at', 'Chars') is what name.read tells. -/
import Derived.Test.YtagaihiemomelaaDoorRNameReadsx3
import Derived.Test.YtagaihiemomelaaDoorNm3
import Derived.Lib.Bytes
set_option linter.unusedVariables false
set_option linter.unusedSimpArgs false
namespace Go.Proofs.YtagaihiemomelaaDoor.Nm
set_option linter.unusedSectionVars false
open Go.RowKit Go.Proofs.YtagaihiemomelaaDoorW.PrintWords Go.Proofs.YtagaihiemomelaaDoorW.PrintMore Go.Proofs.YtagaihiemomelaaDoorW.PrintLast
open Go.Proofs.YtagaihiemomelaaDoor.RNameReads (grommetref02_at.f grommetref02_at.l0 grommetref02_at.l1 grommetref02_at.j1 grommetref02_at.j2 grommetref02_at.mono grommetref02_Chars.f grommetref02_Chars.l0 grommetref02_Char.f grommetref02_Put.f)
theorem qchar_f (c : Int) : grommetref02_Char.f c = some (isChar c) := char_f c
theorem qput_f (c : Int) (h : isChar c = true) : grommetref02_Put.f c = some (enc c) := rput_f c h
theorem bytesOf_inj : ∀ (a b : List Int), Bytes a → Bytes b → Lib.bytesOf a = Lib.bytesOf b → a = b
  | [], [], _, _, _ => rfl
  | [], _ :: _, _, _, h => by simp [Lib.bytesOf] at h
  | _ :: _, [], _, _, h => by simp [Lib.bytesOf] at h
  | x :: a, y :: b, ha, hb, h => by
    simp only [Lib.bytesOf, List.map_cons, List.cons.injEq] at h
    have hx := ha x (List.mem_cons_self ..)
    have hy := hb y (List.mem_cons_self ..)
    have e := congrArg UInt8.toNat h.1
    simp only [UInt8.toNat_ofNat'] at e
    have : x = y := by omega
    rw [this, bytesOf_inj a b (fun z hz => ha z (List.mem_cons_of_mem _ hz)) (fun z hz => hb z (List.mem_cons_of_mem _ hz)) h.2]
theorem str_eq {a b : List Int} (ha : Bytes a) (hb : Bytes b) : (strOfNums a).toList = (strOfNums b).toList ↔ a = b :=
  ⟨fun h => bytesOf_inj a b ha hb (by rw [← Lib.strOfNums_toList, ← Lib.strOfNums_toList]; exact h), fun h => by rw [h]⟩
def b_ (m : List Int) (j : Nat) : Int := m.getD j 0
/-- The number that n bytes make. -/
def cv (m : List Int) : Nat → Int
  | 1 => b_ m 0
  | 2 => b_ m 0 % 32 * 64 + b_ m 1 % 64
  | 3 => (b_ m 0 % 16 * 64 + b_ m 1 % 64) * 64 + b_ m 2 % 64
  | 4 => ((b_ m 0 % 8 * 64 + b_ m 1 % 64) * 64 + b_ m 2 % 64) * 64 + b_ m 3 % 64
  | _ => 0
def Fits (m : List Int) (n : Nat) : Prop := isChar (cv m n) = true ∧ enc (cv m n) = m.take n
instance (m : List Int) (n : Nat) : Decidable (Fits m n) := by unfold Fits; infer_instance
theorem fits_rd {m : List Int} {n : Nat} (hn : n ≤ m.length) (h : Fits m n) : rdF m = (cv m n, (n : Int)) := by
  have e := enc_rdF (cv m n) h.1 (m.drop n)
  have hl := enc_length (cv m n)
  rw [h.2, List.take_append_drop] at e
  rw [h.2, List.length_take, Nat.min_eq_left hn] at hl
  rw [e, hl]
theorem rd_fits {m : List Int} {c : Int} {n : Nat} (hb : Bytes m) (h : rdF m = (c, (n : Int))) (h0 : n ≠ 0) : Fits m n ∧ 1 ≤ n ∧ n ≤ 4 ∧ n ≤ m.length := by
  have hn := rdF_n m
  rw [h] at hn
  simp only at hn
  obtain ⟨h1, h2⟩ := rdF_enc m hb (by rw [h]; simp only; omega)
  rw [h] at h1 h2
  simp only [Int.toNat_natCast] at h1 h2
  obtain ⟨c0, c1, c2⟩ := char_range h1
  have hnl : n ≤ m.length := by omega
  have hl := enc_length c
  rw [h2, List.length_take, Nat.min_eq_left hnl] at hl
  have hcv : cv m n = c := by
    rcases width_of (c := c) with hw | hw | hw | hw
    · obtain rfl : n = 1 := by omega
      rw [enc1 hw] at h2
      match m, hnl, h2 with
      | x :: r, _, h2 => simp at h2; simp [cv, b_, h2]
    · obtain rfl : n = 2 := by omega
      have hc : c < 2048 := by unfold width at hw; by_cases q : c < 2048; exact q; rw [if_neg (by omega), if_neg q] at hw; split at hw <;> omega
      rw [enc2 hw] at h2
      match m, hnl, h2 with
      | x :: y :: r, _, h2 =>
        simp at h2
        simp only [cv, b_, List.getD_cons_zero, List.getD_cons_succ]
        rw [← h2.1, ← h2.2]; omega
    · obtain rfl : n = 3 := by omega
      have hc : c < 65536 := by unfold width at hw; by_cases q : c < 65536; exact q; rw [if_neg (by omega), if_neg (by omega), if_neg q] at hw; omega
      rw [enc3 hw] at h2
      match m, hnl, h2 with
      | x :: y :: z :: r, _, h2 =>
        simp at h2
        simp only [cv, b_, List.getD_cons_zero, List.getD_cons_succ]
        rw [← h2.1, ← h2.2.1, ← h2.2.2]; omega
    · obtain rfl : n = 4 := by omega
      rw [enc4 hw] at h2
      match m, hnl, h2 with
      | x :: y :: z :: u :: r, _, h2 =>
        simp at h2
        simp only [cv, b_, List.getD_cons_zero, List.getD_cons_succ]
        rw [← h2.1, ← h2.2.1, ← h2.2.2.1, ← h2.2.2.2]; omega
  exact ⟨⟨by rw [hcv]; exact h1, by rw [hcv]; exact h2⟩, by omega, by omega, hnl⟩
section
variable {l : List Int} {i : Nat} (hb : Bytes l) (hN : l.length ≤ 100000)
include hN
theorem rd_b (j : Nat) : rd l ((i + j : Nat) : Int) = b_ (l.drop i) j := by
  have e : (((i + j : Nat) : Int)).toNat = i + j := Int.toNat_natCast _
  unfold rd b_
  rw [e]
  simp [List.getD, List.getElem?_drop]
include hb
theorem b_range (j : Nat) : 0 ≤ b_ (l.drop i) j ∧ b_ (l.drop i) j < 256 := by
  unfold b_
  by_cases h : j < (l.drop i).length
  · have e : (l.drop i).getD j 0 = (l.drop i)[j] := by rw [List.getD_eq_getElem?_getD, List.getElem?_eq_getElem h, Option.getD_some]
    rw [e]
    exact hb _ (List.mem_of_mem_drop (List.getElem_mem h))
  · have e : (l.drop i).getD j 0 = 0 := by simp [List.getD, List.getElem?_eq_none (Nat.le_of_not_lt h)]
    rw [e]; omega
theorem l1_step (k n j : Nat) (x : Int) (j' : Nat) (hj' : j' = j + 1) (hj : j < n) (hn : n ≤ 4) (hin : i + n ≤ l.length) (x0 : 0 ≤ x) (x1 : x < 1099511627776) :
    grommetref02_at.l1 (k + 1) l (i : Int) (n : Int) x (j : Int) = grommetref02_at.l1 k l (i : Int) (n : Int) (x * 64 + b_ (l.drop i) j % 64) (j' : Int) := by
  subst hj'
  have hr := b_range (i := i) hb hN j
  have e1 : wrap64 ((i : Int) + (j : Int)) = ((i + j : Nat) : Int) := by unfold wrap64; omega
  rw [grommetref02_at.l1, if_pos (by omega), e1, if_pos (by omega), if_pos (by omega), rd_b hN j]
  have e2 : wrap64 (b_ (l.drop i) j) = b_ (l.drop i) j := w64 _ (by omega) (by omega)
  rw [e2, Int.tmod_eq_emod_of_nonneg hr.1]
  have e3 : wrap64 (x * 64) = x * 64 := w64 _ (by omega) (by omega)
  rw [e3]
  have e4 : wrap64 (x * 64 + b_ (l.drop i) j % 64) = x * 64 + b_ (l.drop i) j % 64 := w64 _ (by omega) (by omega)
  rw [e4]
  have e5 : wrap64 ((j : Int) + 1) = ((j + 1 : Nat) : Int) := by unfold wrap64; omega
  rw [e5]
theorem l1_end (k n : Nat) (x : Int) (hn : n ≤ 4) (hin : i + n ≤ l.length) :
    grommetref02_at.l1 (k + 1) l (i : Int) (n : Int) x (n : Int) = if isChar x = true ∧ enc x = (l.drop i).take n then some (x, (n : Int)) else grommetref02_at.l0 k l (i : Int) ((n + 1 : Nat) : Int) := by
  have e1 : wrap64 ((i : Int) + (n : Int)) = ((i + n : Nat) : Int) := by unfold wrap64; omega
  have e5 : wrap64 ((n : Int) + 1) = ((n + 1 : Nat) : Int) := by unfold wrap64; omega
  rw [grommetref02_at.l1, if_neg (by omega), qchar_f, Option.bind_some]
  by_cases hc : isChar x = true
  · rw [if_pos hc, qput_f x hc, Option.bind_some, e1, e5, if_pos (by omega), if_pos (by omega), if_pos (by omega)]
    have e2 : (l.take (((i + n : Nat) : Int)).toNat).drop ((i : Int)).toNat = (l.drop i).take n := by
      simp only [Int.toNat_natCast]
      rw [List.drop_take]
      congr 1
      omega
    rw [e2]
    have hbm : Bytes ((l.drop i).take n) := fun y hy => hb y (List.mem_of_mem_drop (List.mem_of_mem_take hy))
    by_cases he : enc x = (l.drop i).take n
    · rw [if_pos ((str_eq (enc_bytes x hc) hbm).2 he), if_pos ⟨hc, he⟩]
    · rw [if_neg (fun q => he ((str_eq (enc_bytes x hc) hbm).1 q)), if_neg (fun q => he q.2)]
  · rw [if_neg hc, if_neg (fun q => hc q.1), e5]
end
end Go.Proofs.YtagaihiemomelaaDoor.Nm
