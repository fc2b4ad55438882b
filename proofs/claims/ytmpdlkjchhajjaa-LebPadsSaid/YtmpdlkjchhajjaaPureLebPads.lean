/- What Pad tells is read as it was, with all 5 bytes; a number above 32 bits is refused: for every number, without a condition. -/
import Derived.Test.YtmpdlkjchhajjaaPLebPadsx2
import Derived.Test.YtmpdlkjchhajjaaQLebPads
import Derived.OpenShut
import Derived.Test.YtmpdlkjchhajjaaWSized
set_option linter.unusedVariables false
set_option linter.unusedSimpArgs false
namespace Go.Proofs.Ytmpdlkjchhajjaa.Pure
open Go.RowKit Go.Proofs.Ytmpdlkjchhajjaa.PLebPads Go.Proofs.YtmpdlkjchhajjaaW.PrintWords Go.Proofs.YtmpdlkjchhajjaaW.PrintLast Go.Proofs.YtmpdlkjchhajjaaW.PrintMore Go.Proofs.Ytmpdlkjchhajjaa.Leb Go.Proofs.Ytmpdlkjchhajjaa.QLebPads


/-- A number in 5 bytes. -/
def pad (n : Nat) : List Int := [((n % 128 + 128 : Nat) : Int), ((n / 128 % 128 + 128 : Nat) : Int), ((n / 128 / 128 % 128 + 128 : Nat) : Int), ((n / 128 / 128 / 128 % 128 + 128 : Nat) : Int), ((n / 128 / 128 / 128 / 128 : Nat) : Int)]

theorem pad_round (k : Nat) (a i : Int) (out : List Int) (h0 : 0 ≤ i) (h : i < 4) (ho : out.length < 1000) :
    leb_Pad.l0 (k + 1) a out i = leb_Pad.l0 k (a / 128) (out ++ [a % 128 + 128]) (i + 1) := by
  simp only [leb_Pad.l0]
  rw [if_pos h, if_pos (by omega), w64 _ (by omega) (by omega), or128 _ (by omega) (by omega)]
  rw [show a % 256 % 128 + 128 = a % 128 + 128 from by omega]
theorem pad_end (k : Nat) (a i : Int) (out : List Int) (h : 4 ≤ i) (ho : out.length < 1000) : leb_Pad.l0 (k + 1) a out i = some (out ++ [a % 256], none) := by
  simp only [leb_Pad.l0]
  rw [if_neg (by omega), if_pos (by omega)]
theorem Pad_f (n k : Nat) (hn : n < 4294967296) (hk : 6 < k) : leb_Pad.f k (n : Int) = some (pad n, none) := by
  unfold leb_Pad.f
  rw [if_pos (by omega)]
  obtain ⟨k, rfl⟩ : ∃ j, k = j + 5 := ⟨k - 5, by omega⟩
  rw [show k + 5 = k + 1 + 1 + 1 + 1 + 1 from rfl]
  rw [pad_round _ _ _ _ (by omega) (by omega) (by simp), pad_round _ _ _ _ (by omega) (by omega) (by simp), pad_round _ _ _ _ (by omega) (by omega) (by simp), pad_round _ _ _ _ (by omega) (by omega) (by simp)]
  rw [pad_end _ _ _ _ (by omega) (by simp)]
  unfold pad
  refine congrArg (fun l => some (l, none)) ?_
  show [_, _, _, _, _] = [_, _, _, _, _]
  refine List.cons_eq_cons.2 ⟨by omega, List.cons_eq_cons.2 ⟨by omega, List.cons_eq_cons.2 ⟨by omega, List.cons_eq_cons.2 ⟨by omega, List.cons_eq_cons.2 ⟨by omega, rfl⟩⟩⟩⟩⟩

theorem pad_bytes (n : Nat) (hn : n < 4294967296) : Bytes (pad n) := by
  intro x hx
  unfold pad at hx
  simp only [List.mem_cons, List.not_mem_nil, or_false] at hx
  rcases hx with rfl | rfl | rfl | rfl | rfl <;> omega

theorem scan_pad (n : Nat) (hn : n < 4294967296) : scan 5 (pad n) = some (n, 5) := by
  unfold pad
  have more : ∀ (m : Nat) (x : Int) (xs : List Int), ¬ x < 128 → scan (m + 1) (x :: xs) = (scan m xs).map fun p => (x.toNat % 128 + 128 * p.1, p.2 + 1) := fun m x xs h => by rw [scan, if_neg h]
  have last : ∀ (m : Nat) (x : Int) (xs : List Int), x < 128 → scan (m + 1) (x :: xs) = some (x.toNat, 1) := fun m x xs h => by rw [scan, if_pos h]
  rw [show (5 : Nat) = 0 + 1 + 1 + 1 + 1 + 1 from rfl]
  rw [more _ _ _ (by omega), more _ _ _ (by omega), more _ _ _ (by omega), more _ _ _ (by omega), last _ _ _ (by omega)]
  simp only [Option.map_some]
  refine congrArg some (Prod.ext ?_ rfl)
  show _ = n
  omega

theorem LebPads : grommetlaw01_LebPads.Pure := by
  intro a0 w0
  have ha := bounds_u64 w0
  obtain ⟨n, rfl⟩ := Int.eq_ofNat_of_zero_le ha.1
  refine ⟨20, ?_⟩
  unfold grommetlaw01_LebPads.f
  rw [up_f 20 (by omega)]
  simp only [Option.bind_some]
  by_cases h : n < 4294967296
  · rw [Pad_f n 20 h (by omega)]
    simp only [Option.bind_some]
    rw [if_neg (by omega)]
    have e := U_yes (pad n) (pad_bytes n h) (by simp [pad]) 32 0 20 (by omega) (by omega) (by omega) (by omega)
    rw [List.drop_zero, show (32 + 6) / 7 = 5 from rfl, scan_pad n h] at e
    dsimp only at e
    rw [if_pos (by omega)] at e
    rw [show ((0 : Nat) : Int) = 0 from rfl, show ((32 : Nat) : Int) = 32 from rfl] at e
    rw [e]
    simp [pad]
  · unfold leb_Pad.f
    rw [if_neg (by omega)]
    simp only [Option.bind_some]
    rw [if_pos (by omega)]
    simp

end Go.Proofs.Ytmpdlkjchhajjaa.Pure
namespace Go.Proofs.Ytmpdlkjchhajjaa
open Go.ChangeShapes Go.WideShapes
/-- The name by which the printed row asks for it. -/
theorem PrintWords.sized_ints {H : Type} {enc : TypeId × Value → H} {P : Program} {W : World} {base : Nat} {spare : Nat → Bool} {held : Bool} {t e : TypeId} {k : IntKind} {a : Option Addr} {len cap : Nat} {d : DataW H}
    {ps : List MemPlace} {ts : List TypeId} {ds : List (DataW H)} {j : Nat} (hsz : (DataW.weightsEach P ts ds).all (· ≤ reachBytes) = true) (ht : ts[j]? = some t) (hd : ds[j]? = some d) (hu : P.underlying t = some (.slice e))
    (he : P.underlying e = some (.int k)) (hc : P.cellsOf e = 1) {B : Nat} (hB : P.bytesOf e = B) (h : DataW.Trod enc P W base spare held t (.slice a len cap) d ps) : len * B ≤ 140737488351232 :=
  Go.Proofs.YtmpdlkjchhajjaaW.PrintWords.sized_ints hsz ht hd hu he hc hB h
end Go.Proofs.Ytmpdlkjchhajjaa
