/- Plain facts: the document's Split, whole; Same of a list and itself. -/
import Derived.Test.YtibeoejnfpbcfaaDoorSx4
import Derived.Lib.Bytes
namespace Go.Proofs.YtibeoejnfpbcfaaDoor.Sx
open Go.RowKit Go.Proofs.YtibeoejnfpbcfaaDoorW.PrintWords Go.Proofs.YtibeoejnfpbcfaaDoorW.PrintLast Go.Proofs.YtibeoejnfpbcfaaDoorW.PrintMore Go.Proofs.YtibeoejnfpbcfaaDoor.RSectSplits Go.Proofs.YtibeoejnfpbcfaaDoor.Leb
set_option linter.unusedVariables false
set_option linter.unusedSimpArgs false
theorem same_l0 (L : List S34) (hL : L.length ≤ 100000) : ∀ (f j : Nat), j ≤ L.length → L.length - j < f → grommetref07_Same.l0 f L L (j : Int) = some true
  | 0, j, h1, h2 => absurd h2 (Nat.not_lt_zero _)
  | f + 1, j, h1, h2 => by
    rw [grommetref07_Same.l0]
    by_cases h : j < L.length
    · have e : wrap64 ((j : Int) + 1) = ((j + 1 : Nat) : Int) := wr_next j (Nat.le_trans h1 (Nat.le_trans hL (by decide)))
      rw [if_pos (Int.ofNat_lt.2 h), if_pos (Int.natCast_nonneg _), if_pos (Int.ofNat_lt.2 h), if_pos rfl, if_pos rfl, e]
      exact same_l0 L hL f (j + 1) h (by omega)
    · rw [if_neg (fun q => h (Int.ofNat_lt.1 q))]
theorem same_self (L : List S34) (hL : L.length ≤ 100000) : grommetref07_Same.f (L.length + 1) L L = some true := by
  unfold grommetref07_Same.f
  rw [if_pos rfl]
  exact same_l0 L hL _ 0 (Nat.zero_le _) (by omega)
end Go.Proofs.YtibeoejnfpbcfaaDoor.Sx
