/- Plain facts on UTF-8: the document's reading ('at', 'Chars') is what name.read tells. -/
import Derived.Test.YtagaihiemomelaaDoorNm9
set_option linter.unusedVariables false
set_option linter.unusedSimpArgs false
namespace Go.Proofs.YtagaihiemomelaaDoor.Nm
set_option linter.unusedSectionVars false
open Go.RowKit Go.Proofs.YtagaihiemomelaaDoorW.PrintWords Go.Proofs.YtagaihiemomelaaDoorW.PrintMore Go.Proofs.YtagaihiemomelaaDoorW.PrintLast
open Go.Proofs.YtagaihiemomelaaDoor.RNameReads (grommetref02_at.f grommetref02_at.l0 grommetref02_at.l1 grommetref02_at.j1 grommetref02_at.j2 grommetref02_at.mono grommetref02_Chars.f grommetref02_Chars.l0 grommetref02_Char.f grommetref02_Put.f)
section
variable {l : List Int} {i : Nat} (hb : Bytes l) (hN : l.length ≤ 100000)
include hN hb
theorem l0_no (k n : Nat) (hil : i ≤ l.length) (hn : n ≤ 5) (h : ¬ (n ≤ 4 ∧ i + n ≤ l.length)) : grommetref02_at.l0 (k + 1 + 1) l (i : Int) (n : Int) = some (-1, 0) := by
  have e1 : wrap64 ((i : Int) + (n : Int)) = ((i + n : Nat) : Int) := by unfold wrap64; omega
  rw [grommetref02_at.l0]
  by_cases h4 : n ≤ 4
  · rw [if_pos (by omega), e1, decide_eq_false (by omega), grommetref02_at.j1, if_neg (by decide)]
  · rw [if_neg (by omega), grommetref02_at.j1, if_neg (by decide)]
theorem at_none (hil : i ≤ l.length) (h : ∀ n, 1 ≤ n → n ≤ 4 → i + n ≤ l.length → ¬ Fits (l.drop i) n) : (rdF (l.drop i)).2 = 0 := by
  have hbm : Bytes (l.drop i) := fun y hy => hb y (List.mem_of_mem_drop hy)
  have hn := rdF_n (l.drop i)
  by_cases z : (rdF (l.drop i)).2 = 0
  · exact z
  · obtain ⟨f, h1, h4, hl⟩ := rd_fits (n := (rdF (l.drop i)).2.toNat) hbm (show rdF (l.drop i) = ((rdF (l.drop i)).1, ((rdF (l.drop i)).2.toNat : Int)) by
      rw [Int.toNat_of_nonneg hn.1]) (by omega)
    simp only [List.length_drop] at hl
    exact absurd f (h _ h1 h4 (by omega))
/-- What 'at' tells. -/
def atV (m : List Int) : Int × Int := if (rdF m).2 = 0 then (-1, 0) else rdF m
theorem atV_fits {n : Nat} (hin : i + n ≤ l.length) (h1 : 1 ≤ n) (h : Fits (l.drop i) n) : (cv (l.drop i) n, (n : Int)) = atV (l.drop i) := by
  have e := fits_rd (m := l.drop i) (n := n) (by simp only [List.length_drop]; omega) h
  unfold atV
  rw [e, if_neg (by simp only; omega)]
theorem at_24 (hil : i ≤ l.length) : grommetref02_at.f 24 l (i : Int) = some (atV (l.drop i)) := by
  unfold grommetref02_at.f
  have none_ : ∀ {P : Prop}, (∀ n, 1 ≤ n → n ≤ 4 → i + n ≤ l.length → ¬ Fits (l.drop i) n) → some ((-1 : Int), (0 : Int)) = some (atV (l.drop i)) := fun h => by
    unfold atV
    rw [if_pos (at_none hb hN hil h)]
  show grommetref02_at.l0 24 l (i : Int) ((1 : Nat) : Int) = _
  by_cases l1 : i + 1 ≤ l.length
  · rw [show grommetref02_at.l0 24 l (i : Int) ((1 : Nat) : Int) = _ from l0_yes hb hN 20 1 (by decide) (by decide) l1]
    by_cases f1 : Fits (l.drop i) 1
    · rw [if_pos f1, atV_fits hb hN l1 (by decide) f1]
    · rw [if_neg f1]
      by_cases l2 : i + 2 ≤ l.length
      · rw [show grommetref02_at.l0 20 l (i : Int) ((1 + 1 : Nat) : Int) = _ from l0_yes hb hN 15 2 (by decide) (by decide) l2]
        by_cases f2 : Fits (l.drop i) 2
        · rw [if_pos f2, atV_fits hb hN l2 (by decide) f2]
        · rw [if_neg f2]
          by_cases l3 : i + 3 ≤ l.length
          · rw [show grommetref02_at.l0 15 l (i : Int) ((2 + 1 : Nat) : Int) = _ from l0_yes hb hN 9 3 (by decide) (by decide) l3]
            by_cases f3 : Fits (l.drop i) 3
            · rw [if_pos f3, atV_fits hb hN l3 (by decide) f3]
            · rw [if_neg f3]
              by_cases l4 : i + 4 ≤ l.length
              · rw [show grommetref02_at.l0 9 l (i : Int) ((3 + 1 : Nat) : Int) = _ from l0_yes hb hN 2 4 (by decide) (by decide) l4]
                by_cases f4 : Fits (l.drop i) 4
                · rw [if_pos f4, atV_fits hb hN l4 (by decide) f4]
                · rw [if_neg f4]
                  refine (l0_no hb hN 0 5 hil (by decide) (by omega)).trans (none_ (P := True) fun n h1 h4 hl => ?_)
                  rcases (show n = 1 ∨ n = 2 ∨ n = 3 ∨ n = 4 by omega) with rfl | rfl | rfl | rfl
                  · exact f1
                  · exact f2
                  · exact f3
                  · exact f4
              · refine (l0_no hb hN 7 4 hil (by decide) (by omega)).trans (none_ (P := True) fun n h1 h4 hl => ?_)
                rcases (show n = 1 ∨ n = 2 ∨ n = 3 by omega) with rfl | rfl | rfl
                · exact f1
                · exact f2
                · exact f3
          · refine (l0_no hb hN 13 3 hil (by decide) (by omega)).trans (none_ (P := True) fun n h1 h4 hl => ?_)
            rcases (show n = 1 ∨ n = 2 by omega) with rfl | rfl
            · exact f1
            · exact f2
      · refine (l0_no hb hN 18 2 hil (by decide) (by omega)).trans (none_ (P := True) fun n h1 h4 hl => ?_)
        obtain rfl : n = 1 := by omega
        exact f1
  · refine (l0_no hb hN 22 1 hil (by decide) (by omega)).trans (none_ (P := True) fun n h1 h4 hl => ?_)
    omega
theorem at_f (hil : i ≤ l.length) : ∀ k, grommetref02_at.f (24 + k) l (i : Int) = some (atV (l.drop i))
  | 0 => at_24 hb hN hil
  | k + 1 => grommetref02_at.mono _ _ _ _ (at_f hil k)
end
/-- How the document tells it. -/
def docV : Except Nat (List Int) → List Int × Int
  | .ok cs => (cs, -1)
  | .error a => ([], (a : Int))
theorem rchars_f (l : List Int) (hb : Bytes l) (hN : l.length ≤ 100000) : ∀ (f at_ : Nat) (out : List Int), at_ ≤ l.length → l.length - at_ < f → out.length ≤ at_ →
    grommetref02_Chars.l0 (24 + f) l out (at_ : Int) = some (docV (chs f l at_ out))
  | 0, at_, out, h1, h2, h3 => absurd h2 (Nat.not_lt_zero _)
  | f + 1, at_, out, h1, h2, h3 => by
    rw [show 24 + (f + 1) = 24 + f + 1 from rfl, grommetref02_Chars.l0, chs]
    by_cases h : l.length ≤ at_
    · rw [if_neg (by omega), if_pos h]; rfl
    · rw [if_pos (by omega), if_neg h, at_f hb hN h1 f, Option.bind_some]
      have hn := rdF_n (l.drop at_)
      simp only [List.length_drop] at hn
      by_cases z : (rdF (l.drop at_)).2 = 0
      · have e : atV (l.drop at_) = (-1, 0) := by unfold atV; rw [if_pos z]
        rw [e, if_pos (by decide), if_pos z]; rfl
      · have e : atV (l.drop at_) = rdF (l.drop at_) := by unfold atV; rw [if_neg z]
        have hc := char_range (rdF_enc (l.drop at_) (fun y hy => hb y (List.mem_of_mem_drop hy)) z).1
        have e5 : wrap64 ((at_ : Int) + (rdF (l.drop at_)).2) = ((at_ + (rdF (l.drop at_)).2.toNat : Nat) : Int) := by unfold wrap64; omega
        rw [e, if_neg (by omega), if_neg z, if_pos (by omega), e5]
        exact rchars_f l hb hN f _ _ (by omega) (by omega) (by simp; omega)
theorem rChars_f (l : List Int) (hb : Bytes l) (hN : l.length ≤ 100000) : grommetref02_Chars.f (24 + (l.length + 1)) l = some (docV (dec l)) := by
  unfold grommetref02_Chars.f
  rw [← chars_dec]
  exact rchars_f l hb hN (l.length + 1) 0 [] (Nat.zero_le _) (by omega) (Nat.le_refl _)
end Go.Proofs.YtagaihiemomelaaDoor.Nm
