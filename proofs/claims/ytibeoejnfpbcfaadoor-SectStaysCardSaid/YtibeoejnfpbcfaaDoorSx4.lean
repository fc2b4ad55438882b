/- Plain facts: what the document's Split tells is what sect.Split tells. -/
import Derived.Test.YtibeoejnfpbcfaaDoorSx2
import Derived.Test.YtibeoejnfpbcfaaDoorRSectSplitsx4
import Derived.Test.YtibeoejnfpbcfaaDoorRSectSplitsx5
namespace Go.Proofs.YtibeoejnfpbcfaaDoor.Sx
open Go.RowKit Go.Proofs.YtibeoejnfpbcfaaDoorW.PrintWords Go.Proofs.YtibeoejnfpbcfaaDoorW.PrintLast Go.Proofs.YtibeoejnfpbcfaaDoorW.PrintMore Go.Proofs.YtibeoejnfpbcfaaDoor.RSectSplits Go.Proofs.YtibeoejnfpbcfaaDoor.Leb
set_option linter.unusedVariables false
set_option linter.unusedSimpArgs false
def docV : Except (Int × Nat) (List S34) → List S34 × Int × Int
  | .ok cs => (cs, 0, -1)
  | .error (b, at_) => ([], b, (at_ : Int))
def rV : Option (Nat × Nat) → Int × Int × Bool
  | none => (0, 0, false)
  | some (n, nx) => ((n : Int), (nx : Int), true)
theorem mx_zero {last id : Int} (h : id = 0) (h0 : 0 ≤ last) : mx last id = last := by unfold mx; split <;> omega
theorem mx_more {last id : Int} (h : ¬ id ≤ last) : mx last id = id := by unfold mx; rw [if_pos (by omega)]
theorem down_ {L a b f : Nat} (h : L - a < f + 1) (h1 : a < b) (h2 : b ≤ L) : L - b < f := by omega
theorem one_more {out : List S34} {x : S34} (h : out.length ≤ 128) (h1 : ¬ out.length = 128) : (out ++ [x]).length ≤ 128 := by simp; omega
theorem small_ {n : Nat} (h : n ≤ 100000) : ([] : List Int).length + n < 140737488355328 := by simp; omega
theorem small2_ {n : Nat} (h : n ≤ 128) : n < 3518437208883 := by omega
theorem r_f (l : List Int) (hb : Bytes l) (hl : l.length ≤ 100000) (at_ k : Nat) (ha : at_ ≤ l.length) (hk : 400 ≤ k) : grommetref01_Read.f k l (at_ : Int) 32 false = some (rV (rdU l at_)) := by
  have h := QSect.Read_f l hb (by omega) 32 at_ k false (by decide) (by decide) hk ha
  have e : ((32 : Nat) : Int) = 32 := rfl
  rw [e] at h
  rw [h]
  unfold rdU rV
  have e5 : (32 + 6) / 7 = 5 := rfl
  rw [e5]
  cases hs : scan 5 (l.drop at_) with
  | none => rfl
  | some p =>
    obtain ⟨D, N⟩ := p
    simp only
    rw [if_neg (by decide)]
    by_cases hD : D < 2 ^ 32
    · rw [if_pos hD, if_pos hD]
    · rw [if_neg hD, if_neg hD]
theorem rspl {l : List Int} (hb : Bytes l) (hl : l.length ≤ 100000) : ∀ (f at_ : Nat) (last : Int) (out : List S34), at_ ≤ l.length → l.length - at_ < f → out.length ≤ 128 → 0 ≤ last →
    grommetref07_Split.l0 (402 + 2 * f) l out last (at_ : Int) = some (docV (spl f l at_ last out))
  | 0, at_, last, out, h1, h2, ho, h0 => absurd h2 (Nat.not_lt_zero _)
  | f + 1, at_, last, out, h1, h2, ho, h0 => by
    rw [show 402 + 2 * (f + 1) = (402 + 2 * f) + 1 + 1 from rfl, grommetref07_Split.l0, spl]
    by_cases h : l.length ≤ at_
    · rw [if_neg (fun e => absurd (Int.ofNat_lt.1 e) (Nat.not_lt.2 h)), if_pos h]; rfl
    · have hlt : at_ + 1 ≤ l.length := Nat.lt_of_not_le h
      have hr := QSect.rd_bytes hb (at_ : Int)
      have hw : wrap64 (rd l (at_ : Int)) = rd l (at_ : Int) := by clear h2 h1 hl; unfold wrap64; omega
      rw [if_pos (Int.ofNat_lt.2 hlt), if_neg h, if_pos (Int.natCast_nonneg _), hw]
      have hrf := r_f l hb hl (at_ + 1) (402 + 2 * f) hlt (by clear h2 hr hw; omega)
      have e1 : wrap64 ((at_ : Int) + 1) = ((at_ + 1 : Nat) : Int) := wr_next at_ (by clear h2 hr hw hrf; omega)
      by_cases c1 : rd l (at_ : Int) > 11
      · rw [if_pos c1, if_pos (Or.inl c1), grommetref07_Split.j2, if_pos rfl]; rfl
      · rw [if_neg c1]
        by_cases c2 : rd l (at_ : Int) = 0
        · rw [if_pos c2, if_neg (by clear hrf; omega), grommetref07_Split.j2, if_neg (by decide)]
          by_cases c3 : out.length = 128
          · rw [if_pos (by clear hrf; omega), if_pos c3]; rfl
          · rw [if_neg (by clear hrf; omega), if_neg c3, if_pos c2, e1]
            cases hu : rdU l (at_ + 1) with
            | none =>
              have hrf' : grommetref01_Read.f (402 + 2 * f) l ((at_ + 1 : Nat) : Int) 32 false = some (0, 0, false) := by rw [hrf, hu]; rfl
              rw [hrf', Option.bind_some]
              exact Eq.trans (if_neg (fun e => Bool.noConfusion e)) rfl
            | some p =>
              obtain ⟨n, nx⟩ := p
              obtain ⟨u1, u2, u3⟩ := rdU_facts hb hlt hu
              have hrf' : grommetref01_Read.f (402 + 2 * f) l ((at_ + 1 : Nat) : Int) 32 false = some ((n : Int), (nx : Int), true) := by rw [hrf, hu]; rfl
              rw [hrf', Option.bind_some]
              refine Eq.trans (if_pos rfl) ?_
              dsimp only
              rw [wr_left l.length nx hl u2]
              by_cases hn : l.length - nx < n
              · rw [if_pos (Int.ofNat_lt.2 hn), if_pos hn]; rfl
              · have hnl := fits_ hn u2
                have hto : wrap64 ((nx : Int) + wrap64 (n : Int)) = ((nx + n : Nat) : Int) := by
                  rw [wr_n n u3]; exact wr_to nx n (Nat.le_trans u2 hl) (Nat.le_trans (Nat.le_trans (Nat.le_add_left n nx) hnl) hl)
                rw [if_neg (fun e => hn (Int.ofNat_lt.1 e)), if_neg hn, Option.bind_some, hto, if_pos (Int.natCast_nonneg _), if_pos (Int.ofNat_le.2 (Nat.le_add_right nx n)), if_pos (Int.ofNat_le.2 hnl)]
                have hm := mid_len hnl hl
                simp only [Int.toNat_natCast]
                rw [if_pos (small_ hm), if_pos (small2_ ho), List.nil_append]
                rw [mx_zero c2 h0]
                exact rspl hb hl f (nx + n) _ _ hnl (down_ h2 (tot_ok u1 hnl rfl).1 hnl) (one_more ho c3) h0
        · rw [if_neg c2]
          by_cases c4 : rd l (at_ : Int) ≤ last
          · rw [decide_eq_true c4, if_pos (by clear hrf; omega), grommetref07_Split.j2, if_pos rfl]; rfl
          · rw [decide_eq_false c4, if_neg (by clear hrf; omega), grommetref07_Split.j2, if_neg (by decide)]
            by_cases c3 : out.length = 128
            · rw [if_pos (by clear hrf; omega), if_pos c3]; rfl
            · rw [if_neg (by clear hrf; omega), if_neg c3, if_neg c2, e1]
              cases hu : rdU l (at_ + 1) with
              | none =>
                have hrf' : grommetref01_Read.f (402 + 2 * f) l ((at_ + 1 : Nat) : Int) 32 false = some (0, 0, false) := by rw [hrf, hu]; rfl
                rw [hrf', Option.bind_some]
                exact Eq.trans (if_neg (fun e => Bool.noConfusion e)) rfl
              | some p =>
                obtain ⟨n, nx⟩ := p
                obtain ⟨u1, u2, u3⟩ := rdU_facts hb hlt hu
                have hrf' : grommetref01_Read.f (402 + 2 * f) l ((at_ + 1 : Nat) : Int) 32 false = some ((n : Int), (nx : Int), true) := by rw [hrf, hu]; rfl
                rw [hrf', Option.bind_some]
                refine Eq.trans (if_pos rfl) ?_
                dsimp only
                rw [wr_left l.length nx hl u2]
                by_cases hn : l.length - nx < n
                · rw [if_pos (Int.ofNat_lt.2 hn), if_pos hn]; rfl
                · have hnl := fits_ hn u2
                  have hto : wrap64 ((nx : Int) + wrap64 (n : Int)) = ((nx + n : Nat) : Int) := by
                    rw [wr_n n u3]; exact wr_to nx n (Nat.le_trans u2 hl) (Nat.le_trans (Nat.le_trans (Nat.le_add_left n nx) hnl) hl)
                  rw [if_neg (fun e => hn (Int.ofNat_lt.1 e)), if_neg hn, Option.bind_some, hto, if_pos (Int.natCast_nonneg _), if_pos (Int.ofNat_le.2 (Nat.le_add_right nx n)), if_pos (Int.ofNat_le.2 hnl)]
                  have hm := mid_len hnl hl
                  simp only [Int.toNat_natCast]
                  rw [if_pos (small_ hm), if_pos (small2_ ho), List.nil_append]
                  rw [mx_more c4]
                  exact rspl hb hl f (nx + n) _ _ hnl (down_ h2 (tot_ok u1 hnl rfl).1 hnl) (one_more ho c3) hr.1
end Go.Proofs.YtibeoejnfpbcfaaDoor.Sx
