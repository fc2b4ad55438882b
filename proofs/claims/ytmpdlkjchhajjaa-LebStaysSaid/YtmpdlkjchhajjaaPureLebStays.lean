/- Bytes that are handed in stay as they are; what was told stays, whatever becomes of it: for all bytes, places and numbers, without a condition. -/
import Derived.Test.YtmpdlkjchhajjaaRLebStaysx2
import Derived.Test.YtmpdlkjchhajjaaQLebStays
import Derived.OpenShut
import Derived.Test.YtmpdlkjchhajjaaWSized
set_option linter.unusedVariables false
set_option linter.unusedSimpArgs false
namespace Go.Proofs.Ytmpdlkjchhajjaa.Pure
open Go.RowKit Go.Proofs.Ytmpdlkjchhajjaa.RLebStays Go.Proofs.YtmpdlkjchhajjaaW.PrintWords Go.Proofs.YtmpdlkjchhajjaaW.PrintLast Go.Proofs.YtmpdlkjchhajjaaW.PrintMore Go.Proofs.Ytmpdlkjchhajjaa.Leb Go.Proofs.Ytmpdlkjchhajjaa.QLebStays


theorem U_some (l : List Int) (hb : Bytes l) (hl : l.length ≤ 9223372036854775000) (at_ bits : Int) (k : Nat) (hk : 11 < k) : ∃ r, leb_U.f k l at_ bits = some r := by
  by_cases hm : May l at_ bits
  · obtain ⟨h1, h2, h3, h4⟩ := hm
    obtain ⟨b, rfl⟩ := Int.eq_ofNat_of_zero_le (show 0 ≤ bits by omega)
    obtain ⟨a, rfl⟩ := Int.eq_ofNat_of_zero_le h3
    exact ⟨_, U_yes l hb hl b a k (by omega) (by omega) hk (by omega)⟩
  · exact ⟨_, U_no k hm⟩
theorem S_some (l : List Int) (hb : Bytes l) (hl : l.length ≤ 9223372036854775000) (at_ bits : Int) (k : Nat) (hk : 11 < k) : ∃ r, leb_S.f k l at_ bits = some r := by
  by_cases hm : May l at_ bits
  · obtain ⟨h1, h2, h3, h4⟩ := hm
    obtain ⟨b, rfl⟩ := Int.eq_ofNat_of_zero_le (show 0 ≤ bits by omega)
    obtain ⟨a, rfl⟩ := Int.eq_ofNat_of_zero_le h3
    exact ⟨_, S_yes l hb hl b a k (by omega) (by omega) hk (by omega)⟩
  · exact ⟨_, S_no k hm⟩

theorem stays_l0 (l0 : List Int) (n : Nat) (hn : n < 2 ^ 64) (hl : (encU n).length ≤ 10) : ∀ (d k : Nat) (x9 : List Int) (i : Nat), i + d = x9.length → x9.length = (encU n).length → d + 13 < k →
    grommetlaw01_LebStays.l0 k l0 (n : Int) true l0 x9 ((encU n).length : Int) (i : Int) = some true := by
  intro d
  induction d with
  | zero =>
    intro k x9 i hi h9 hk
    obtain ⟨k, rfl⟩ : ∃ j, k = j + 1 := ⟨k - 1, by omega⟩
    simp only [grommetlaw01_LebStays.l0]
    rw [if_neg (by omega), PutU_f n k hn (by omega)]
    have hp := encU_pos n
    simp only [Option.bind_some, if_true]
    rw [if_neg (by omega), if_pos (by omega)]
    have hh : rd (encU n) 0 = if n < 128 then (n : Int) else ((n % 128 + 128 : Nat) : Int) := by
      by_cases h : n < 128
      · rw [if_pos h, encU_small h]; rfl
      · rw [if_neg h, encU_great h]; rfl
    rw [hh]
    have : (Int.tmod (if n < 128 then (n : Int) else ((n % 128 + 128 : Nat) : Int)) 128) = (Int.tmod (n : Int) 128) % 256 := by
      rw [Int.tmod_eq_emod_of_nonneg (by split <;> omega), Int.tmod_eq_emod_of_nonneg (by omega)]
      split <;> omega
    rw [this]; simp
  | succ d ih =>
    intro k x9 i hi h9 hk
    obtain ⟨k, rfl⟩ : ∃ j, k = j + 1 := ⟨k - 1, by omega⟩
    simp only [grommetlaw01_LebStays.l0]
    rw [if_pos (by omega), if_pos (by omega), w64 _ (by omega) (by omega)]
    exact ih k _ (i + 1) (by rw [List.length_set]; omega) (by rw [List.length_set]; exact h9) (by omega)

theorem LebStays : grommetlaw01_LebStays.Pure := by
  intro l0 a1 a2 m0 r0 b0 w1 w2
  have hb : Bytes l0 := fun x hx => by have := bounds_u8 (b0 x hx); omega
  have ha := bounds_u64 w2
  obtain ⟨n, rfl⟩ := Int.eq_ofNat_of_zero_le ha.1
  have hn : n < 2 ^ 64 := by omega
  refine ⟨40, ?_⟩
  unfold grommetlaw01_LebStays.f
  rw [up_f 40 (by omega)]
  simp only [Option.bind_some]
  by_cases h1 : (l0.length : Int) > 1000
  · rw [if_pos h1]
  · rw [if_neg h1]
    simp only [List.length_nil, List.nil_append]
    rw [if_pos (by omega)]
    obtain ⟨r, hr⟩ := U_some l0 hb (by omega) a1 32 40 (by omega)
    obtain ⟨s, hs⟩ := S_some l0 hb (by omega) a1 64 40 (by omega)
    rw [hr, hs, PutU_f n 40 hn (by omega)]
    simp only [Option.bind_some]
    have hl := encU_len 10 n (by omega) (Nat.lt_of_lt_of_le hn (by decide))
    exact stays_l0 l0 n hn hl (encU n).length 40 (encU n) 0 (by omega) rfl (by omega)

end Go.Proofs.Ytmpdlkjchhajjaa.Pure
namespace Go.Proofs.Ytmpdlkjchhajjaa
open Go.ChangeShapes Go.WideShapes
/-- The name by which the printed row asks for it. -/
theorem PrintWords.sized_ints {H : Type} {enc : TypeId × Value → H} {P : Program} {W : World} {base : Nat} {spare : Nat → Bool} {held : Bool} {t e : TypeId} {k : IntKind} {a : Option Addr} {len cap : Nat} {d : DataW H}
    {ps : List MemPlace} {ts : List TypeId} {ds : List (DataW H)} {j : Nat} (hsz : (DataW.weightsEach P ts ds).all (· ≤ reachBytes) = true) (ht : ts[j]? = some t) (hd : ds[j]? = some d) (hu : P.underlying t = some (.slice e))
    (he : P.underlying e = some (.int k)) (hc : P.cellsOf e = 1) {B : Nat} (hB : P.bytesOf e = B) (h : DataW.Trod enc P W base spare held t (.slice a len cap) d ps) : len * B ≤ 140737488351232 :=
  Go.Proofs.YtmpdlkjchhajjaaW.PrintWords.sized_ints hsz ht hd hu he hc hB h
end Go.Proofs.Ytmpdlkjchhajjaa
