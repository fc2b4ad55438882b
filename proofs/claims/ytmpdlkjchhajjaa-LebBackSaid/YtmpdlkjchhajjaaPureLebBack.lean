/- What was put by PutU or PutS is read as it was, whatever stands behind; what is read, and put again, is no longer than it was: for every number, all bytes, places and widths, without a condition. -/
import Derived.Test.YtmpdlkjchhajjaaPLebBackx2
import Derived.Test.YtmpdlkjchhajjaaQLebBack
import Derived.OpenShut
import Derived.Test.YtmpdlkjchhajjaaWSized
set_option linter.unusedVariables false
set_option linter.unusedSimpArgs false
namespace Go.Proofs.Ytmpdlkjchhajjaa.Pure
open Go.RowKit Go.Proofs.Ytmpdlkjchhajjaa.PLebBack Go.Proofs.YtmpdlkjchhajjaaW.PrintWords Go.Proofs.YtmpdlkjchhajjaaW.PrintLast Go.Proofs.Ytmpdlkjchhajjaa.Leb Go.Proofs.Ytmpdlkjchhajjaa.QLebBack

theorem back_j1 (l2 : List Int) (hb : Bytes l2) (hl : l2.length ≤ 1000) (at_ bits : Int) (k : Nat) (hk : 12 < k) : grommetlaw01_LebBack.j1 k l2 at_ bits true false = some true := by
  obtain ⟨k, rfl⟩ : ∃ m, k = m + 1 := ⟨k - 1, by omega⟩
  simp only [grommetlaw01_LebBack.j1]
  rw [if_neg (by decide)]
  by_cases hm : May l2 at_ bits
  · obtain ⟨h1, h2, h3, h4⟩ := hm
    obtain ⟨b, rfl⟩ := Int.eq_ofNat_of_zero_le (show 0 ≤ bits by omega)
    obtain ⟨a, rfl⟩ := Int.eq_ofNat_of_zero_le h3
    rw [U_yes l2 hb (by omega) b a k (by omega) (by omega) (by omega) (by omega), S_yes l2 hb (by omega) b a k (by omega) (by omega) (by omega) (by omega)]
    simp only [Option.bind_some]
    cases hs : scan ((b + 6) / 7) (l2.drop a) with
    | none => simp
    | some p =>
      obtain ⟨D, N⟩ := p
      obtain ⟨g1, g2, g3, g4, g5, g6⟩ := last_byte hb hs
      have hw : wrap64 (((a + N : Nat) : Int) - (a : Int)) = (N : Int) := by rw [w64 _ (by omega) (by omega)]; omega
      have hr := sgn_range D N g4
      have hS : ∀ {α : Type} (s : Int) (x y : α), SIn s b → s = sgn D N → ((leb_PutS.f k s).bind fun t => if (t.length : Int) > (N : Int) then (some x) else some y) = some y := by
        intro α s x y hin hse
        have h263 : 2 ^ (b - 1) ≤ 2 ^ 63 := Nat.pow_le_pow_right (by decide) (by omega)
        unfold SIn at hin
        rw [PutS_f s k (by omega) (by omega) (by omega)]
        simp only [Option.bind_some]
        have := encS_len N s g1 (by omega) (by omega)
        rw [if_neg (by omega)]
      have hU : ∀ {α : Type} (x : α) (y : Option α), D < 2 ^ b → ((leb_PutU.f k (D : Int)).bind fun t => if (t.length : Int) > (N : Int) then (some x) else y) = y := by
        intro α x y hD
        have h264 : 2 ^ b ≤ 2 ^ 64 := Nat.pow_le_pow_right (by decide) (by omega)
        rw [PutU_f D k (by omega) (by omega)]
        simp only [Option.bind_some]
        have := encU_len N D g1 g4
        rw [if_neg (by omega)]
      by_cases hD : D < 2 ^ b <;> by_cases hI : SIn (sgn D N) b
      · simp only [if_pos hD, if_pos hI, Option.isNone_none, if_true, hw]
        rw [hU _ _ hD, hS _ _ _ hI rfl]
      · simp only [if_pos hD, if_neg hI, Option.isNone_none, if_true, hw]
        rw [hU _ _ hD]; simp
      · simp only [if_neg hD, if_pos hI, Option.isNone_none, if_true, hw]
        rw [hS _ _ _ hI rfl]; simp
      · simp only [if_neg hD, if_neg hI]; simp
  · rw [U_no k hm, S_no k hm]; simp

theorem LebBack : grommetlaw01_LebBack.Pure := by
  intro a0 l1 l2 a3 a4 w0 m1 r1 b1 m2 r2 b2 w3 w4
  have hb1 : Bytes l1 := fun x hx => by have := bounds_u8 (b1 x hx); omega
  have hb2 : Bytes l2 := fun x hx => by have := bounds_u8 (b2 x hx); omega
  have ha := bounds_u64 w0
  obtain ⟨n, rfl⟩ := Int.eq_ofNat_of_zero_le ha.1
  refine ⟨20, ?_⟩
  unfold grommetlaw01_LebBack.f
  rw [up_f 20 (by omega)]
  simp only [Option.bind_some]
  by_cases h1 : (l1.length : Int) > 1000
  · rw [if_pos h1]; rfl
  · rw [if_neg h1]
    by_cases h2 : (l2.length : Int) > 1000
    · rw [show decide ((l2.length : Int) > 1000) = true from by simpa using h2]; rfl
    · rw [show decide ((l2.length : Int) > 1000) = false from by simpa using h2]
      simp only [grommetlaw01_LebBack.j0]
      rw [if_neg (by decide)]
      have hn : n < 2 ^ 64 := by omega
      obtain ⟨s, hs⟩ : ∃ s, s = wrap64 (n : Int) := ⟨_, rfl⟩
      have hs0 : -9223372036854775808 ≤ s ∧ s < 9223372036854775808 := by subst hs; unfold wrap64; omega
      have hsn : IntKind.u64.wrap s = (n : Int) := by rw [wrap_u64]; subst hs; unfold wrap64; omega
      rw [← hs, PutU_f n 19 hn (by omega), PutS_f s 19 hs0.1 hs0.2 (by omega)]
      have lu := encU_len 10 n (by omega) (Nat.lt_of_lt_of_le hn (by decide))
      have ls := encS_len 10 s (by omega) (by omega) (by omega)
      simp only [Option.bind_some, List.nil_append, List.length_nil, Nat.zero_add]
      rw [if_pos (by omega), if_pos (by omega)]
      have eU := U_yes (encU n ++ l1) ((encU_bytes n).append hb1) (by simp; omega) 64 0 19 (by omega) (by omega) (by omega) (by omega)
      have eS := S_yes (encS s ++ l1) ((encS_bytes _ s (Nat.le_refl _)).append hb1) (by simp; omega) 64 0 19 (by omega) (by omega) (by omega) (by omega)
      rw [show ((0 : Nat) : Int) = 0 from rfl, show ((64 : Nat) : Int) = 64 from rfl] at eU eS
      rw [List.drop_zero] at eU eS
      rw [scan_encU n l1 ((64 + 6) / 7) (by omega)] at eU
      obtain ⟨D, hD, hg⟩ := scan_encS l1 _ s (Nat.le_refl _) ((64 + 6) / 7) (by omega)
      rw [hD] at eS
      simp only [hg] at eS
      dsimp only at eU
      rw [if_pos hn] at eU
      rw [if_pos (show SIn s 64 from ⟨by omega, by omega⟩)] at eS
      rw [eU, eS]
      simp only [Option.bind_some]
      rw [if_pos (by omega), if_pos (by omega)]
      simp only [Option.isNone_none, if_true]
      rw [if_pos hsn]
      simp only [Nat.zero_add, if_true]
      rw [show ((((encS s).length : Nat) : Int) != (((encS s).length : Nat) : Int)) = false from by simp]
      exact back_j1 l2 hb2 (by omega) a3 a4 19 (by omega)

end Go.Proofs.Ytmpdlkjchhajjaa.Pure
namespace Go.Proofs.Ytmpdlkjchhajjaa
open Go.ChangeShapes Go.WideShapes
/-- The name by which the printed row asks for it. -/
theorem PrintWords.sized_ints {H : Type} {enc : TypeId × Value → H} {P : Program} {W : World} {base : Nat} {spare : Nat → Bool} {held : Bool} {t e : TypeId} {k : IntKind} {a : Option Addr} {len cap : Nat} {d : DataW H}
    {ps : List MemPlace} {ts : List TypeId} {ds : List (DataW H)} {j : Nat} (hsz : (DataW.weightsEach P ts ds).all (· ≤ reachBytes) = true) (ht : ts[j]? = some t) (hd : ds[j]? = some d) (hu : P.underlying t = some (.slice e))
    (he : P.underlying e = some (.int k)) (hc : P.cellsOf e = 1) {B : Nat} (hB : P.bytesOf e = B) (h : DataW.Trod enc P W base spare held t (.slice a len cap) d ps) : len * B ≤ 140737488351232 :=
  Go.Proofs.YtmpdlkjchhajjaaW.PrintWords.sized_ints hsz ht hd hu he hc hB h
end Go.Proofs.Ytmpdlkjchhajjaa
