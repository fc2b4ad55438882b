/- Plain facts: the document's Split, whole. -/
import Derived.Test.YtibeoejnfpbcfaaDoorSx5
namespace Go.Proofs.YtibeoejnfpbcfaaDoor.Sx
open Go.RowKit Go.Proofs.YtibeoejnfpbcfaaDoorW.PrintWords Go.Proofs.YtibeoejnfpbcfaaDoorW.PrintLast Go.Proofs.YtibeoejnfpbcfaaDoorW.PrintMore Go.Proofs.YtibeoejnfpbcfaaDoor.RSectSplits Go.Proofs.YtibeoejnfpbcfaaDoor.Leb
set_option linter.unusedVariables false
set_option linter.unusedSimpArgs false
theorem str_size (l : List Int) : (strOfNums l).size = l.length := by
  rw [Lib.size_eq, ← Lib.toList_data, Lib.strOfNums_toList, Lib.bytesOf_length]
theorem str_take (l : List Int) : ((strOfNums l).extract 0 8).toList = (strOfNums (l.take 8)).toList := by
  rw [Lib.strOfNums_toList, Lib.bytesOf_take, ← Lib.strOfNums_toList, Lib.toList_data, Lib.extract_data, Lib.toList_data]
  simp
theorem magic_str : (strOfNums [0, 97, 115, 109, 1, 0, 0, 0]).toList = (⟨#[0, 97, 115, 109, 1, 0, 0, 0]⟩ : ByteArray).toList := by kernel_rfl
theorem isMod_small {l : List Int} (h : l.length < 8) : isMod l = false := by
  unfold isMod strings_HasPrefix.f stringslite_HasPrefix.f
  rw [str_size, if_neg (by intro e; have : (8 : Int) ≤ (l.length : Int) := e; omega)]
  rfl
theorem isMod_great {l : List Int} (h : ¬ l.length < 8) : isMod l = ((strOfNums (l.take 8)).toList == (strOfNums [0, 97, 115, 109, 1, 0, 0, 0]).toList) := by
  have hl : (8 : Int) ≤ (l.length : Int) := by omega
  have h8 : (((⟨#[0, 97, 115, 109, 1, 0, 0, 0]⟩ : ByteArray).size : Nat) : Int) = 8 := by kernel_rfl
  unfold isMod strings_HasPrefix.f stringslite_HasPrefix.f
  rw [str_size, h8, if_pos hl, if_pos (by decide), if_pos hl, magic_str, ← str_take]
  rfl
theorem rsplit_f (l : List Int) (hb : Bytes l) (hl : l.length ≤ 100000) : grommetref07_Split.f (402 + 2 * (l.length + 1) + 1) l = some (docV (split l)) := by
  unfold grommetref07_Split.f
  rw [show grommetref07_Magic.f = some [0, 97, 115, 109, 1, 0, 0, 0] from rfl, Option.bind_some]
  unfold split
  by_cases h : l.length < 8
  · rw [if_pos (show (l.length : Int) < 8 by omega), grommetref07_Split.j0, if_pos rfl, isMod_small h, if_neg (by decide)]; rfl
  · rw [if_neg (show ¬ (l.length : Int) < 8 by omega), if_pos (show (8 : Int) ≤ (l.length : Int) by omega), isMod_great h, grommetref07_Split.j0]
    by_cases e : (strOfNums (l.take 8)).toList = (strOfNums [0, 97, 115, 109, 1, 0, 0, 0]).toList
    · have b1 : ((strOfNums (l.take 8)).toList == (strOfNums [0, 97, 115, 109, 1, 0, 0, 0]).toList) = true := beq_iff_eq.2 e
      have b2 : ((strOfNums (l.take 8)).toList != (strOfNums [0, 97, 115, 109, 1, 0, 0, 0]).toList) = false := bne_eq_false_iff_eq.2 e
      rw [b1, b2, if_neg (by decide), if_pos rfl]
      exact rspl hb hl (l.length + 1) 8 0 [] (by omega) (by omega) (by simp) (by omega)
    · have b1 : ((strOfNums (l.take 8)).toList == (strOfNums [0, 97, 115, 109, 1, 0, 0, 0]).toList) = false := beq_eq_false_iff_ne.2 e
      have b2 : ((strOfNums (l.take 8)).toList != (strOfNums [0, 97, 115, 109, 1, 0, 0, 0]).toList) = true := bne_iff_ne.2 e
      rw [b1, b2, if_pos rfl, if_neg (by decide)]; rfl
end Go.Proofs.YtibeoejnfpbcfaaDoor.Sx
