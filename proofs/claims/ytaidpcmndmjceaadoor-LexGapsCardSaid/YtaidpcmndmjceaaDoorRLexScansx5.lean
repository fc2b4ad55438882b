-- Made by the program wip/patchprint.py (this session's own, over the kit's print)
import Derived.Test.YtaidpcmndmjceaaDoorRLexScansx0
import Derived.Test.YtaidpcmndmjceaaDoorRLexScansx3
import Derived.Test.YtaidpcmndmjceaaDoorRLexScansx4
namespace Go.Proofs.YtaidpcmndmjceaaDoor.RLexScans
open Go.RowKit Go.Proofs.YtaidpcmndmjceaaDoor.Man Go.Proofs.YtaidpcmndmjceaaDoorW.PrintWords Go.Proofs.YtaidpcmndmjceaaDoorW.PrintLast Go.Proofs.YtaidpcmndmjceaaDoorW.PrintMore
attribute [local go_sem] max2_int min2_int max_two min_two max_three min_three max_four min_four   -- for this text's walks alone
set_option linter.unusedVariables false
set_option linter.unusedSimpArgs false
set_option linter.unnecessarySimpa false

attribute [local go_sem] err_eql err_neq err_nil_eql err_nil_neq
attribute [local simp] shl_zero
/-! ### grommetref09_Scan: function 8 -/
mutual
def grommetref09_Scan.l0 : Nat → ByteArray → List (S36) → Int → Option ((List (S36)) × Int × Int)
  | 0, _, _, _ => none
  | k + 1, x0, x5, x6 => if x6 < (x0.size : Int) then ((grommetref09_gap.f k x0 x6).bind fun t118 => (if t118 < 0 then (some (([] : List (S36)), 2, x6)) else (if t118 > x6 then (grommetref09_Scan.l0 k x0 x5 t118) else (if 0 ≤ x6 then (if (bt x0 x6) = 40 then (if (x5.length : Int) ≥ 4096 then (some (([] : List (S36)), 7, x6)) else (if x5.length < 4398046511104 then (grommetref09_Scan.l0 k x0 (x5 ++ [(⟨1, x6, (⟨#[]⟩ : ByteArray)⟩ : S36)]) (wrap64 (x6 + 1))) else (none))) else (if (bt x0 x6) = 41 then (if (x5.length : Int) ≥ 4096 then (some (([] : List (S36)), 7, x6)) else (if x5.length < 4398046511104 then (grommetref09_Scan.l0 k x0 (x5 ++ [(⟨2, x6, (⟨#[]⟩ : ByteArray)⟩ : S36)]) (wrap64 (x6 + 1))) else (none))) else (if (bt x0 x6) = 34 then ((grommetref09_text.f k x0 x6).bind fun t126 => (if t126 < 0 then (some (([] : List (S36)), 2, x6)) else (if 0 ≤ (wrap64 (x6 + 1)) then (if (wrap64 (x6 + 1)) ≤ (wrap64 (t126 - 1)) then (if (wrap64 (t126 - 1)) ≤ (x0.size : Int) then (if (x5.length : Int) ≥ 4096 then (some (([] : List (S36)), 7, x6)) else (if x5.length < 4398046511104 then (grommetref09_Scan.l0 k x0 (x5 ++ [(⟨3, x6, x0.extract ((wrap64 (x6 + 1)) : Int).toNat ((wrap64 (t126 - 1)) : Int).toNat⟩ : S36)]) t126) else (none))) else (none)) else (none)) else (none)))) else (grommetref09_Scan.l1 k x0 x5 x6 x6 0 x6 (⟨#[]⟩ : ByteArray))))) else (none))))) else (some (x5, 0, (-1)))
def grommetref09_Scan.j2 : Nat → ByteArray → List (S36) → Int → Int → Int → Int → ByteArray → Option ((List (S36)) × Int × Int)
  | 0, _, _, _, _, _, _, _ => none
  | k + 1, x0, x5, x6, x9, x120000, x120001, x120002 => if x9 = x6 then (some (([] : List (S36)), 2, x6)) else (if 0 ≤ x6 then (if x6 ≤ x9 then (if x9 ≤ (x0.size : Int) then (if (x5.length : Int) ≥ 4096 then (some (([] : List (S36)), 7, x6)) else (if x5.length < 4398046511104 then (grommetref09_Scan.l0 k x0 (x5 ++ [(⟨4, x120001, x0.extract (x6 : Int).toNat (x9 : Int).toNat⟩ : S36)]) x9) else (none))) else (none)) else (none)) else (none))
def grommetref09_Scan.l1 : Nat → ByteArray → List (S36) → Int → Int → Int → Int → ByteArray → Option ((List (S36)) × Int × Int)
  | 0, _, _, _, _, _, _, _ => none
  | k + 1, x0, x5, x6, x9, x120000, x120001, x120002 => if x9 < (x0.size : Int) then (if 0 ≤ x9 then ((grommetref09_is.f k (bt x0 x9)).bind fun t130 => (if t130 = true then (grommetref09_Scan.l1 k x0 x5 x6 (wrap64 (x9 + 1)) x120000 x120001 x120002) else (grommetref09_Scan.j2 k x0 x5 x6 x9 x120000 x120001 x120002))) else (none)) else (grommetref09_Scan.j2 k x0 x5 x6 x9 x120000 x120001 x120002)
end
def grommetref09_Scan.f (k : Nat) (a0 : ByteArray) : Option ((List (S36)) × Int × Int) := grommetref09_Scan.l0 k a0 ([] : List (S36)) 0
theorem grommetref09_Scan.mono_l : ∀ k, (∀ y0 y1 y2, LeO (grommetref09_Scan.l0 k y0 y1 y2) (grommetref09_Scan.l0 (k + 1) y0 y1 y2)) ∧ (∀ y0 y1 y2 y3 y4 y5 y6, LeO (grommetref09_Scan.j2 k y0 y1 y2 y3 y4 y5 y6) (grommetref09_Scan.j2 (k + 1) y0 y1 y2 y3 y4 y5 y6)) ∧ (∀ y0 y1 y2 y3 y4 y5 y6, LeO (grommetref09_Scan.l1 k y0 y1 y2 y3 y4 y5 y6) (grommetref09_Scan.l1 (k + 1) y0 y1 y2 y3 y4 y5 y6))
  | 0 => ⟨fun _ _ _ r h => by simp [grommetref09_Scan.l0] at h, fun _ _ _ _ _ _ _ r h => by simp [grommetref09_Scan.j2] at h, fun _ _ _ _ _ _ _ r h => by simp [grommetref09_Scan.l1] at h⟩
  | k + 1 => by
    obtain ⟨ih0, ih1, ih2⟩ := grommetref09_Scan.mono_l k
    refine ⟨?_, ?_, ?_⟩
    · intro y0 y1 y2
      unfold grommetref09_Scan.l0
      repeat' first
      | (with_reducible exact ih0 _ _ _)
      | (with_reducible exact ih1 _ _ _ _ _ _ _)
      | (with_reducible exact ih2 _ _ _ _ _ _ _)
      | (with_reducible exact grommetref09_gap.mono _ _ _)
      | (with_reducible exact grommetref09_is.mono _ _)
      | (with_reducible exact grommetref09_text.mono _ _ _)
      | (with_reducible exact LeO.refl _)
      | (with_reducible exact LeO.none _)
      | (with_reducible refine LeO.ite ?_ ?_)
      | (with_reducible refine LeO.bind ?_ (fun _ => ?_))
      | exact ih0 _ _ _
      | exact ih1 _ _ _ _ _ _ _
      | exact ih2 _ _ _ _ _ _ _
      | exact grommetref09_gap.mono _ _ _
      | exact grommetref09_is.mono _ _
      | exact grommetref09_text.mono _ _ _
      | exact LeO.none _
      | refine LeO.ite ?_ ?_
      | refine LeO.bind ?_ (fun _ => ?_)
    · intro y0 y1 y2 y3 y4 y5 y6
      unfold grommetref09_Scan.j2
      repeat' first
      | (with_reducible exact ih0 _ _ _)
      | (with_reducible exact ih1 _ _ _ _ _ _ _)
      | (with_reducible exact ih2 _ _ _ _ _ _ _)
      | (with_reducible exact grommetref09_gap.mono _ _ _)
      | (with_reducible exact grommetref09_is.mono _ _)
      | (with_reducible exact grommetref09_text.mono _ _ _)
      | (with_reducible exact LeO.refl _)
      | (with_reducible exact LeO.none _)
      | (with_reducible refine LeO.ite ?_ ?_)
      | (with_reducible refine LeO.bind ?_ (fun _ => ?_))
      | exact ih0 _ _ _
      | exact ih1 _ _ _ _ _ _ _
      | exact ih2 _ _ _ _ _ _ _
      | exact grommetref09_gap.mono _ _ _
      | exact grommetref09_is.mono _ _
      | exact grommetref09_text.mono _ _ _
      | exact LeO.none _
      | refine LeO.ite ?_ ?_
      | refine LeO.bind ?_ (fun _ => ?_)
    · intro y0 y1 y2 y3 y4 y5 y6
      unfold grommetref09_Scan.l1
      repeat' first
      | (with_reducible exact ih0 _ _ _)
      | (with_reducible exact ih1 _ _ _ _ _ _ _)
      | (with_reducible exact ih2 _ _ _ _ _ _ _)
      | (with_reducible exact grommetref09_gap.mono _ _ _)
      | (with_reducible exact grommetref09_is.mono _ _)
      | (with_reducible exact grommetref09_text.mono _ _ _)
      | (with_reducible exact LeO.refl _)
      | (with_reducible exact LeO.none _)
      | (with_reducible refine LeO.ite ?_ ?_)
      | (with_reducible refine LeO.bind ?_ (fun _ => ?_))
      | exact ih0 _ _ _
      | exact ih1 _ _ _ _ _ _ _
      | exact ih2 _ _ _ _ _ _ _
      | exact grommetref09_gap.mono _ _ _
      | exact grommetref09_is.mono _ _
      | exact grommetref09_text.mono _ _ _
      | exact LeO.none _
      | refine LeO.ite ?_ ?_
      | refine LeO.bind ?_ (fun _ => ?_)
theorem grommetref09_Scan.mono : ∀ a0 k, LeO (grommetref09_Scan.f k a0) (grommetref09_Scan.f (k + 1) a0) := by
  intro a0 k
  obtain ⟨ih0, ih1, ih2⟩ := grommetref09_Scan.mono_l k
  unfold grommetref09_Scan.f
  repeat' first
      | (with_reducible exact ih0 _ _ _)
      | (with_reducible exact ih1 _ _ _ _ _ _ _)
      | (with_reducible exact ih2 _ _ _ _ _ _ _)
      | (with_reducible exact grommetref09_gap.mono _ _ _)
      | (with_reducible exact grommetref09_is.mono _ _)
      | (with_reducible exact grommetref09_text.mono _ _ _)
      | (with_reducible exact LeO.refl _)
      | (with_reducible exact LeO.none _)
      | (with_reducible refine LeO.ite ?_ ?_)
      | (with_reducible refine LeO.bind ?_ (fun _ => ?_))
      | exact ih0 _ _ _
      | exact ih1 _ _ _ _ _ _ _
      | exact ih2 _ _ _ _ _ _ _
      | exact grommetref09_gap.mono _ _ _
      | exact grommetref09_is.mono _ _
      | exact grommetref09_text.mono _ _ _
      | exact LeO.none _
      | refine LeO.ite ?_ ?_
      | refine LeO.bind ?_ (fun _ => ?_)
end Go.Proofs.YtaidpcmndmjceaaDoor.RLexScans
