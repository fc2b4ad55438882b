/- A number of so many bits is one of more bits, too, and the same; with bits that are too few it is none: for every number and all widths, without a condition. -/
import Derived.Test.YtmpdlkjchhajjaaRLebBitsx2
import Derived.Test.YtmpdlkjchhajjaaQLebBits
import Derived.OpenShut
import Derived.Test.YtmpdlkjchhajjaaWSized
set_option linter.unusedVariables false
set_option linter.unusedSimpArgs false
namespace Go.Proofs.Ytmpdlkjchhajjaa.Pure
open Go.RowKit Go.Proofs.Ytmpdlkjchhajjaa.RLebBits Go.Proofs.YtmpdlkjchhajjaaW.PrintWords Go.Proofs.YtmpdlkjchhajjaaW.PrintLast Go.Proofs.YtmpdlkjchhajjaaW.PrintMore Go.Proofs.Ytmpdlkjchhajjaa.Leb Go.Proofs.Ytmpdlkjchhajjaa.QLebBits

theorem U_encU (n bits k : Nat) (hn : n < 2 ^ 64) (h1 : 1 ≤ bits) (h64 : bits ≤ 64) (hk : 11 < k) :
    leb_U.f k (encU n) 0 (bits : Int) = some (if n < 2 ^ bits then ((n : Int), ((encU n).length : Int), none) else (0, 0, some 2)) := by
  have hl := encU_len 10 n (by omega) (Nat.lt_of_lt_of_le hn (by decide))
  have e := U_yes (encU n) (encU_bytes n) (by omega) bits 0 k h1 h64 hk (by omega)
  rw [List.drop_zero] at e
  rw [show ((0 : Nat) : Int) = 0 from rfl] at e
  by_cases hR : (encU n).length ≤ (bits + 6) / 7
  · have := scan_encU n [] _ hR
    rw [List.append_nil] at this
    rw [this] at e
    dsimp only at e
    rw [Nat.zero_add] at e
    exact e
  · have := scan_encU_few n [] _ (Nat.lt_of_not_le hR)
    rw [List.append_nil] at this
    rw [this] at e
    have hbig : ¬ n < 2 ^ bits := by
      intro h
      refine hR (encU_len _ n (by omega) (Nat.lt_of_lt_of_le h ?_))
      rw [pow128]; exact Nat.pow_le_pow_right (by decide) (by omega)
    rw [if_neg hbig]
    exact e

theorem shl_one (b : Nat) (h : b < 64) : shl .u64 1 (b : Int) = ((2 ^ b : Nat) : Int) := by
  unfold shl
  rw [show min (b : Int).toNat (IntKind.bits .u64) = b from by simp [IntKind.bits]; omega, wrap_u64, Int.one_mul]
  have e1 : (2 : Int) ^ b = ((2 ^ b : Nat) : Int) := by rw [Int.natCast_pow]; rfl
  have h2 : 2 ^ b ≤ 2 ^ 63 := Nat.pow_le_pow_right (by decide) (by omega)
  rw [e1]; clear e1
  have h0 := Nat.two_pow_pos b
  generalize (2 : Nat) ^ b = G at *
  omega

theorem LebBits : grommetlaw01_LebBits.Pure := by
  intro a0 a1 a2 w0 w1 w2
  have ha := bounds_u64 w0
  obtain ⟨n, rfl⟩ := Int.eq_ofNat_of_zero_le ha.1
  refine ⟨20, ?_⟩
  unfold grommetlaw01_LebBits.f
  rw [up_f 20 (by omega)]
  simp only [Option.bind_some]
  have ht : ∀ b : Bool, grommetlaw01_LebBits.j0 20 (n : Int) a1 a2 b true = some b := fun b => rfl
  by_cases h1 : a1 < 1
  · rw [if_pos h1, ht]
  by_cases h2 : a1 > 64
  · rw [if_neg h1, if_pos h2, ht]
  by_cases h3 : a2 < a1
  · rw [if_neg h1, if_neg h2, if_pos h3, ht]
  rw [if_neg h1, if_neg h2, if_neg h3]
  by_cases h4 : a2 > 64
  · rw [show decide (a2 > 64) = true from by simpa using h4, ht]
  rw [show decide (a2 > 64) = false from by simpa using h4]
  obtain ⟨b, rfl⟩ := Int.eq_ofNat_of_zero_le (show 0 ≤ a1 by omega)
  obtain ⟨c, rfl⟩ := Int.eq_ofNat_of_zero_le (show 0 ≤ a2 by omega)
  have hn : n < 2 ^ 64 := by omega
  simp only [grommetlaw01_LebBits.j0]
  rw [if_neg (by decide), PutU_f n 19 hn (by omega)]
  simp only [Option.bind_some]
  rw [U_encU n b 19 hn (by omega) (by omega) (by omega), U_encU n c 19 hn (by omega) (by omega) (by omega)]
  simp only [Option.bind_some]
  have hbc : 2 ^ b ≤ 2 ^ c := Nat.pow_le_pow_right (by decide) (by omega)
  by_cases h64 : b = 64
  · subst h64
    have hc : c = 64 := by omega
    subst hc
    rw [if_pos (show ((64 : Nat) : Int) = 64 from rfl)]
    simp only [if_pos hn]
    simp
  · rw [if_neg (by omega), if_pos (by omega), shl_one b (by omega)]
    by_cases hf : n < 2 ^ b
    · rw [show decide ((n : Int) < ((2 ^ b : Nat) : Int)) = true from by simp only [decide_eq_true_eq]; omega]
      simp only [if_pos hf, if_pos (Nat.lt_of_lt_of_le hf hbc)]
      simp
    · rw [show decide ((n : Int) < ((2 ^ b : Nat) : Int)) = false from by simp only [decide_eq_false_iff_not]; omega]
      simp only [if_neg hf]
      simp

end Go.Proofs.Ytmpdlkjchhajjaa.Pure
namespace Go.Proofs.Ytmpdlkjchhajjaa
open Go.ChangeShapes Go.WideShapes
/-- The name by which the printed row asks for it. -/
theorem PrintWords.sized_ints {H : Type} {enc : TypeId × Value → H} {P : Program} {W : World} {base : Nat} {spare : Nat → Bool} {held : Bool} {t e : TypeId} {k : IntKind} {a : Option Addr} {len cap : Nat} {d : DataW H}
    {ps : List MemPlace} {ts : List TypeId} {ds : List (DataW H)} {j : Nat} (hsz : (DataW.weightsEach P ts ds).all (· ≤ reachBytes) = true) (ht : ts[j]? = some t) (hd : ds[j]? = some d) (hu : P.underlying t = some (.slice e))
    (he : P.underlying e = some (.int k)) (hc : P.cellsOf e = 1) {B : Nat} (hB : P.bytesOf e = B) (h : DataW.Trod enc P W base spare held t (.slice a len cap) d ps) : len * B ≤ 140737488351232 :=
  Go.Proofs.YtmpdlkjchhajjaaW.PrintWords.sized_ints hsz ht hd hu he hc hB h
end Go.Proofs.Ytmpdlkjchhajjaa
