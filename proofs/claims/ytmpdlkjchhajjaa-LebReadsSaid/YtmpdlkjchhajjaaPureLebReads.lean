/- The number that begins anywhere in any bytes, of any bits, with a sign or without one, is the one that the document defines, or the error that is to be: for all bytes, places and widths, without a condition. -/
import Derived.Test.YtmpdlkjchhajjaaRLebReadsx4
import Derived.Test.YtmpdlkjchhajjaaQLebReads
import Derived.OpenShut
import Derived.Test.YtmpdlkjchhajjaaWSized
set_option linter.unusedVariables false
set_option linter.unusedSimpArgs false
namespace Go.Proofs.Ytmpdlkjchhajjaa.Pure
open Go.RowKit Go.Proofs.Ytmpdlkjchhajjaa.RLebReads Go.Proofs.YtmpdlkjchhajjaaW.PrintWords Go.Proofs.YtmpdlkjchhajjaaW.PrintLast Go.Proofs.YtmpdlkjchhajjaaW.PrintMore Go.Proofs.Ytmpdlkjchhajjaa.Leb Go.Proofs.Ytmpdlkjchhajjaa.QLebReads


theorem LebReads : grommetlaw01_LebReads.Pure := by
  intro l a1 a2 m0 r0 b0 w1 w2
  have hb : Bytes l := fun x hx => by have := bounds_u8 (b0 x hx); omega
  refine ⟨500, ?_⟩
  unfold grommetlaw01_LebReads.f
  rw [up_f 500 (by omega)]
  simp only [Option.bind_some]
  by_cases hlen : (l.length : Int) > 1000
  · rw [if_pos hlen]
  rw [if_neg hlen]
  by_cases hm : May l a1 a2
  · obtain ⟨h1, h2, h3, h4⟩ := hm
    obtain ⟨b, rfl⟩ := Int.eq_ofNat_of_zero_le (show 0 ≤ a2 by omega)
    obtain ⟨a, rfl⟩ := Int.eq_ofNat_of_zero_le h3
    rw [U_yes l hb (by omega) b a 500 (by omega) (by omega) (by omega) (by omega), S_yes l hb (by omega) b a 500 (by omega) (by omega) (by omega) (by omega)]
    simp only [Option.bind_some]
    rw [if_neg (by omega), if_neg (by omega), if_neg (by omega)]
    rw [show decide ((a : Int) > (l.length : Int)) = false from by simp only [decide_eq_false_iff_not]; omega]
    have ru := Read_f l hb (by omega) b a 499 false (by omega) (by omega) (by omega) (by omega)
    have rs := Read_f l hb (by omega) b a 499 true (by omega) (by omega) (by omega) (by omega)
    cases hs : scan ((b + 6) / 7) (l.drop a) with
    | none =>
      rw [hs] at ru rs
      simp only [grommetlaw01_LebReads.j0, ru, rs]
      simp
    | some p =>
      obtain ⟨D, N⟩ := p
      rw [hs] at ru rs
      dsimp only at ru rs ⊢
      by_cases hD : D < 2 ^ b <;> by_cases hI : SIn (sgn D N) b
      · simp only [if_pos hD, if_pos hI, if_true, Bool.false_eq_true, if_false] at ru rs ⊢
        simp only [grommetlaw01_LebReads.j0, ru, rs]
        simp
      · simp only [if_pos hD, if_neg hI, if_true, Bool.false_eq_true, if_false] at ru rs ⊢
        simp only [grommetlaw01_LebReads.j0, ru, rs]
        simp
      · simp only [if_neg hD, if_pos hI, if_true, Bool.false_eq_true, if_false] at ru rs ⊢
        simp only [grommetlaw01_LebReads.j0, ru, rs]
        simp
      · simp only [if_neg hD, if_neg hI, if_true, Bool.false_eq_true, if_false] at ru rs ⊢
        simp only [grommetlaw01_LebReads.j0, ru, rs]
        simp
  · rw [U_no 500 hm, S_no 500 hm]
    simp only [Option.bind_some]
    have ht : grommetlaw01_LebReads.j0 500 l a1 a2 true 0 0 (some 1) 0 0 (some 1) true = some true := by
      simp only [grommetlaw01_LebReads.j0]
      simp
    unfold May at hm
    by_cases h1 : a2 < 1
    · rw [if_pos h1, ht]
    by_cases h2 : a2 > 64
    · rw [if_neg h1, if_pos h2, ht]
    by_cases h3 : a1 < 0
    · rw [if_neg h1, if_neg h2, if_pos h3, ht]
    rw [if_neg h1, if_neg h2, if_neg h3, show decide (a1 > (l.length : Int)) = true from by simp only [decide_eq_true_eq]; omega, ht]

end Go.Proofs.Ytmpdlkjchhajjaa.Pure
namespace Go.Proofs.Ytmpdlkjchhajjaa
open Go.ChangeShapes Go.WideShapes
/-- The name by which the printed row asks for it. -/
theorem PrintWords.sized_ints {H : Type} {enc : TypeId × Value → H} {P : Program} {W : World} {base : Nat} {spare : Nat → Bool} {held : Bool} {t e : TypeId} {k : IntKind} {a : Option Addr} {len cap : Nat} {d : DataW H}
    {ps : List MemPlace} {ts : List TypeId} {ds : List (DataW H)} {j : Nat} (hsz : (DataW.weightsEach P ts ds).all (· ≤ reachBytes) = true) (ht : ts[j]? = some t) (hd : ds[j]? = some d) (hu : P.underlying t = some (.slice e))
    (he : P.underlying e = some (.int k)) (hc : P.cellsOf e = 1) {B : Nat} (hB : P.bytesOf e = B) (h : DataW.Trod enc P W base spare held t (.slice a len cap) d ps) : len * B ≤ 140737488351232 :=
  Go.Proofs.YtmpdlkjchhajjaaW.PrintWords.sized_ints hsz ht hd hu he hc hB h
end Go.Proofs.Ytmpdlkjchhajjaa
