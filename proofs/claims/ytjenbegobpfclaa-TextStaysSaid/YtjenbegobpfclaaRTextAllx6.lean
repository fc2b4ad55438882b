-- Made by the program wip/patchprint.py (this session's own, over the kit's print)
import Derived.Test.YtjenbegobpfclaaRTextAllx0
import Derived.Test.YtjenbegobpfclaaRTextAllx4
import Derived.Test.YtjenbegobpfclaaRTextAllx5
namespace Go.Proofs.Ytjenbegobpfclaa.RTextAll
open Go.RowKit Go.Proofs.Ytjenbegobpfclaa.Man Go.Proofs.YtjenbegobpfclaaW.PrintWords Go.Proofs.YtjenbegobpfclaaW.PrintLast Go.Proofs.YtjenbegobpfclaaW.PrintMore
attribute [local go_sem] max2_int min2_int max_two min_two max_three min_three max_four min_four   -- for this text's walks alone
set_option linter.unusedVariables false
set_option linter.unusedSimpArgs false
set_option linter.unnecessarySimpa false

attribute [local go_sem] err_eql err_neq err_nil_eql err_nil_neq
attribute [local simp] shl_zero
/-! ### grommetref11_Int: function 10 -/
mutual
def grommetref11_Int.j0 : Nat → ByteArray → Int → Bool → Bool → Option (Int × Int)
  | 0, _, _, _, _ => none
  | k + 1, x0, x1, x6, x28 => if x28 = true then (if 1 ≤ (x0.size : Int) then (grommetref11_Int.j1 k (x0.extract 1 x0.size) x1 x6) else (none)) else (grommetref11_Int.j1 k x0 x1 x6)
def grommetref11_Int.j1 : Nat → ByteArray → Int → Bool → Option (Int × Int)
  | 0, _, _, _ => none
  | k + 1, x0, x1, x6 => (grommetref11_starts.f x0 (⟨#[48, 120]⟩ : ByteArray)).bind fun t182 => ((grommetref11_starts.f x0 (⟨#[105, 110, 102]⟩ : ByteArray)).bind fun t183 => ((grommetref11_starts.f x0 (⟨#[110, 97, 110]⟩ : ByteArray)).bind fun t184 => (if t183 = true then (grommetref11_Int.j2 k x0 x1 x6 t182 true) else (grommetref11_Int.j2 k x0 x1 x6 t182 t184))))
def grommetref11_Int.j2 : Nat → ByteArray → Int → Bool → Bool → Bool → Option (Int × Int)
  | 0, _, _, _, _, _ => none
  | k + 1, x0, x1, x6, x8, x11 => if (x0.size : Int) > 0 then (if 0 < (x0.size : Int) then (if (bt x0 0) ≥ 48 then (grommetref11_Int.j3 k x0 x1 x6 x8 x11 (decide ((bt x0 0) ≤ 57))) else (grommetref11_Int.j3 k x0 x1 x6 x8 x11 false)) else (none)) else (grommetref11_Int.j3 k x0 x1 x6 x8 x11 false)
def grommetref11_Int.j3 : Nat → ByteArray → Int → Bool → Bool → Bool → Bool → Option (Int × Int)
  | 0, _, _, _, _, _, _ => none
  | k + 1, x0, x1, x6, x8, x11, x53 => if x53 = true then (if x8 = true then ((grommetref11_has.f k x0 (⟨#[46, 112, 80]⟩ : ByteArray)).bind fun t185 => (if x11 = true then (grommetref11_Int.j4 k x0 x1 x6 x8 true) else (if t185 = true then (grommetref11_Int.j4 k x0 x1 x6 x8 true) else (grommetref11_Int.j4 k x0 x1 x6 x8 false)))) else ((grommetref11_has.f k x0 (⟨#[46, 101, 69]⟩ : ByteArray)).bind fun t186 => (if x11 = true then (grommetref11_Int.j4 k x0 x1 x6 x8 true) else (grommetref11_Int.j4 k x0 x1 x6 x8 t186)))) else (grommetref11_Int.j4 k x0 x1 x6 x8 x11)
def grommetref11_Int.j4 : Nat → ByteArray → Int → Bool → Bool → Bool → Option (Int × Int)
  | 0, _, _, _, _, _ => none
  | k + 1, x0, x1, x6, x8, x11 => if x11 = true then (some (0, 3)) else (if x8 = true then (if 2 ≤ (x0.size : Int) then (grommetref11_Int.j5 k (x0.extract 2 x0.size) x1 x6 16) else (none)) else (grommetref11_Int.j5 k x0 x1 x6 10))
def grommetref11_Int.j5 : Nat → ByteArray → Int → Bool → Int → Option (Int × Int)
  | 0, _, _, _, _ => none
  | k + 1, x0, x1, x6, x14 => (grommetref11_Digits.f k x0 x14).bind fun bt187 => (if bt187.2 = true then ((grommetref11_value.f k bt187.1 x14).bind fun bt191 => (if x1 = 32 then (grommetref11_Int.j6 k x6 bt191.1 bt191.2 4294967295 2147483648) else (grommetref11_Int.j6 k x6 bt191.1 bt191.2 18446744073709551615 9223372036854775808))) else (some (0, 2)))
def grommetref11_Int.j6 : Nat → Bool → Int → Bool → Int → Int → Option (Int × Int)
  | 0, _, _, _, _, _ => none
  | k + 1, x6, x17, x18, x19, x20 => if x18 = true then (if x17 > x19 then (grommetref11_Int.j7 k x6 x17 x19 true) else (if x6 = true then (grommetref11_Int.j7 k x6 x17 x19 (decide (x17 > x20))) else (grommetref11_Int.j7 k x6 x17 x19 false))) else (grommetref11_Int.j7 k x6 x17 x19 true)
def grommetref11_Int.j7 : Nat → Bool → Int → Int → Bool → Option (Int × Int)
  | 0, _, _, _, _ => none
  | k + 1, x6, x17, x19, x106 => if x106 = true then (some (0, 7)) else (if x6 = true then (if x17 > 0 then (some (IntKind.u64.wrap ((IntKind.u64.wrap (x19 - x17)) + 1), 0)) else (some (x17, 0))) else (some (x17, 0)))
end
def grommetref11_Int.f (k : Nat) (a0 : ByteArray) (a1 : Int) : Option (Int × Int) := (grommetref11_starts.f a0 (⟨#[45]⟩ : ByteArray)).bind fun t180 => ((grommetref11_starts.f a0 (⟨#[43]⟩ : ByteArray)).bind fun t181 => (if t180 = true then (grommetref11_Int.j0 k a0 a1 t180 true) else (grommetref11_Int.j0 k a0 a1 t180 t181)))
theorem grommetref11_Int.mono_l : ∀ k, (∀ y0 y1 y2 y3, LeO (grommetref11_Int.j0 k y0 y1 y2 y3) (grommetref11_Int.j0 (k + 1) y0 y1 y2 y3)) ∧ (∀ y0 y1 y2, LeO (grommetref11_Int.j1 k y0 y1 y2) (grommetref11_Int.j1 (k + 1) y0 y1 y2)) ∧ (∀ y0 y1 y2 y3 y4, LeO (grommetref11_Int.j2 k y0 y1 y2 y3 y4) (grommetref11_Int.j2 (k + 1) y0 y1 y2 y3 y4)) ∧ (∀ y0 y1 y2 y3 y4 y5, LeO (grommetref11_Int.j3 k y0 y1 y2 y3 y4 y5) (grommetref11_Int.j3 (k + 1) y0 y1 y2 y3 y4 y5)) ∧ (∀ y0 y1 y2 y3 y4, LeO (grommetref11_Int.j4 k y0 y1 y2 y3 y4) (grommetref11_Int.j4 (k + 1) y0 y1 y2 y3 y4)) ∧ (∀ y0 y1 y2 y3, LeO (grommetref11_Int.j5 k y0 y1 y2 y3) (grommetref11_Int.j5 (k + 1) y0 y1 y2 y3)) ∧ (∀ y0 y1 y2 y3 y4, LeO (grommetref11_Int.j6 k y0 y1 y2 y3 y4) (grommetref11_Int.j6 (k + 1) y0 y1 y2 y3 y4)) ∧ (∀ y0 y1 y2 y3, LeO (grommetref11_Int.j7 k y0 y1 y2 y3) (grommetref11_Int.j7 (k + 1) y0 y1 y2 y3))
  | 0 => ⟨fun _ _ _ _ r h => by simp [grommetref11_Int.j0] at h, fun _ _ _ r h => by simp [grommetref11_Int.j1] at h, fun _ _ _ _ _ r h => by simp [grommetref11_Int.j2] at h, fun _ _ _ _ _ _ r h => by simp [grommetref11_Int.j3] at h, fun _ _ _ _ _ r h => by simp [grommetref11_Int.j4] at h, fun _ _ _ _ r h => by simp [grommetref11_Int.j5] at h, fun _ _ _ _ _ r h => by simp [grommetref11_Int.j6] at h, fun _ _ _ _ r h => by simp [grommetref11_Int.j7] at h⟩
  | k + 1 => by
    obtain ⟨ih0, ih1, ih2, ih3, ih4, ih5, ih6, ih7⟩ := grommetref11_Int.mono_l k
    refine ⟨?_, ?_, ?_, ?_, ?_, ?_, ?_, ?_⟩
    · intro y0 y1 y2 y3
      unfold grommetref11_Int.j0
      repeat' first
      | (with_reducible exact ih0 _ _ _ _)
      | (with_reducible exact ih1 _ _ _)
      | (with_reducible exact ih2 _ _ _ _ _)
      | (with_reducible exact ih3 _ _ _ _ _ _)
      | (with_reducible exact ih4 _ _ _ _ _)
      | (with_reducible exact ih5 _ _ _ _)
      | (with_reducible exact ih6 _ _ _ _ _)
      | (with_reducible exact ih7 _ _ _ _)
      | (with_reducible exact grommetref11_Digits.mono _ _ _)
      | (with_reducible exact grommetref11_has.mono _ _ _)
      | (with_reducible exact grommetref11_value.mono _ _ _)
      | (with_reducible exact LeO.refl _)
      | (with_reducible exact LeO.none _)
      | (with_reducible refine LeO.ite ?_ ?_)
      | (with_reducible refine LeO.bind ?_ (fun _ => ?_))
      | exact ih0 _ _ _ _
      | exact ih1 _ _ _
      | exact ih2 _ _ _ _ _
      | exact ih3 _ _ _ _ _ _
      | exact ih4 _ _ _ _ _
      | exact ih5 _ _ _ _
      | exact ih6 _ _ _ _ _
      | exact ih7 _ _ _ _
      | exact grommetref11_Digits.mono _ _ _
      | exact grommetref11_has.mono _ _ _
      | exact grommetref11_value.mono _ _ _
      | exact LeO.none _
      | refine LeO.ite ?_ ?_
      | refine LeO.bind ?_ (fun _ => ?_)
    · intro y0 y1 y2
      unfold grommetref11_Int.j1
      repeat' first
      | (with_reducible exact ih0 _ _ _ _)
      | (with_reducible exact ih1 _ _ _)
      | (with_reducible exact ih2 _ _ _ _ _)
      | (with_reducible exact ih3 _ _ _ _ _ _)
      | (with_reducible exact ih4 _ _ _ _ _)
      | (with_reducible exact ih5 _ _ _ _)
      | (with_reducible exact ih6 _ _ _ _ _)
      | (with_reducible exact ih7 _ _ _ _)
      | (with_reducible exact grommetref11_Digits.mono _ _ _)
      | (with_reducible exact grommetref11_has.mono _ _ _)
      | (with_reducible exact grommetref11_value.mono _ _ _)
      | (with_reducible exact LeO.refl _)
      | (with_reducible exact LeO.none _)
      | (with_reducible refine LeO.ite ?_ ?_)
      | (with_reducible refine LeO.bind ?_ (fun _ => ?_))
      | exact ih0 _ _ _ _
      | exact ih1 _ _ _
      | exact ih2 _ _ _ _ _
      | exact ih3 _ _ _ _ _ _
      | exact ih4 _ _ _ _ _
      | exact ih5 _ _ _ _
      | exact ih6 _ _ _ _ _
      | exact ih7 _ _ _ _
      | exact grommetref11_Digits.mono _ _ _
      | exact grommetref11_has.mono _ _ _
      | exact grommetref11_value.mono _ _ _
      | exact LeO.none _
      | refine LeO.ite ?_ ?_
      | refine LeO.bind ?_ (fun _ => ?_)
    · intro y0 y1 y2 y3 y4
      unfold grommetref11_Int.j2
      repeat' first
      | (with_reducible exact ih0 _ _ _ _)
      | (with_reducible exact ih1 _ _ _)
      | (with_reducible exact ih2 _ _ _ _ _)
      | (with_reducible exact ih3 _ _ _ _ _ _)
      | (with_reducible exact ih4 _ _ _ _ _)
      | (with_reducible exact ih5 _ _ _ _)
      | (with_reducible exact ih6 _ _ _ _ _)
      | (with_reducible exact ih7 _ _ _ _)
      | (with_reducible exact grommetref11_Digits.mono _ _ _)
      | (with_reducible exact grommetref11_has.mono _ _ _)
      | (with_reducible exact grommetref11_value.mono _ _ _)
      | (with_reducible exact LeO.refl _)
      | (with_reducible exact LeO.none _)
      | (with_reducible refine LeO.ite ?_ ?_)
      | (with_reducible refine LeO.bind ?_ (fun _ => ?_))
      | exact ih0 _ _ _ _
      | exact ih1 _ _ _
      | exact ih2 _ _ _ _ _
      | exact ih3 _ _ _ _ _ _
      | exact ih4 _ _ _ _ _
      | exact ih5 _ _ _ _
      | exact ih6 _ _ _ _ _
      | exact ih7 _ _ _ _
      | exact grommetref11_Digits.mono _ _ _
      | exact grommetref11_has.mono _ _ _
      | exact grommetref11_value.mono _ _ _
      | exact LeO.none _
      | refine LeO.ite ?_ ?_
      | refine LeO.bind ?_ (fun _ => ?_)
    · intro y0 y1 y2 y3 y4 y5
      unfold grommetref11_Int.j3
      repeat' first
      | (with_reducible exact ih0 _ _ _ _)
      | (with_reducible exact ih1 _ _ _)
      | (with_reducible exact ih2 _ _ _ _ _)
      | (with_reducible exact ih3 _ _ _ _ _ _)
      | (with_reducible exact ih4 _ _ _ _ _)
      | (with_reducible exact ih5 _ _ _ _)
      | (with_reducible exact ih6 _ _ _ _ _)
      | (with_reducible exact ih7 _ _ _ _)
      | (with_reducible exact grommetref11_Digits.mono _ _ _)
      | (with_reducible exact grommetref11_has.mono _ _ _)
      | (with_reducible exact grommetref11_value.mono _ _ _)
      | (with_reducible exact LeO.refl _)
      | (with_reducible exact LeO.none _)
      | (with_reducible refine LeO.ite ?_ ?_)
      | (with_reducible refine LeO.bind ?_ (fun _ => ?_))
      | exact ih0 _ _ _ _
      | exact ih1 _ _ _
      | exact ih2 _ _ _ _ _
      | exact ih3 _ _ _ _ _ _
      | exact ih4 _ _ _ _ _
      | exact ih5 _ _ _ _
      | exact ih6 _ _ _ _ _
      | exact ih7 _ _ _ _
      | exact grommetref11_Digits.mono _ _ _
      | exact grommetref11_has.mono _ _ _
      | exact grommetref11_value.mono _ _ _
      | exact LeO.none _
      | refine LeO.ite ?_ ?_
      | refine LeO.bind ?_ (fun _ => ?_)
    · intro y0 y1 y2 y3 y4
      unfold grommetref11_Int.j4
      repeat' first
      | (with_reducible exact ih0 _ _ _ _)
      | (with_reducible exact ih1 _ _ _)
      | (with_reducible exact ih2 _ _ _ _ _)
      | (with_reducible exact ih3 _ _ _ _ _ _)
      | (with_reducible exact ih4 _ _ _ _ _)
      | (with_reducible exact ih5 _ _ _ _)
      | (with_reducible exact ih6 _ _ _ _ _)
      | (with_reducible exact ih7 _ _ _ _)
      | (with_reducible exact grommetref11_Digits.mono _ _ _)
      | (with_reducible exact grommetref11_has.mono _ _ _)
      | (with_reducible exact grommetref11_value.mono _ _ _)
      | (with_reducible exact LeO.refl _)
      | (with_reducible exact LeO.none _)
      | (with_reducible refine LeO.ite ?_ ?_)
      | (with_reducible refine LeO.bind ?_ (fun _ => ?_))
      | exact ih0 _ _ _ _
      | exact ih1 _ _ _
      | exact ih2 _ _ _ _ _
      | exact ih3 _ _ _ _ _ _
      | exact ih4 _ _ _ _ _
      | exact ih5 _ _ _ _
      | exact ih6 _ _ _ _ _
      | exact ih7 _ _ _ _
      | exact grommetref11_Digits.mono _ _ _
      | exact grommetref11_has.mono _ _ _
      | exact grommetref11_value.mono _ _ _
      | exact LeO.none _
      | refine LeO.ite ?_ ?_
      | refine LeO.bind ?_ (fun _ => ?_)
    · intro y0 y1 y2 y3
      unfold grommetref11_Int.j5
      repeat' first
      | (with_reducible exact ih0 _ _ _ _)
      | (with_reducible exact ih1 _ _ _)
      | (with_reducible exact ih2 _ _ _ _ _)
      | (with_reducible exact ih3 _ _ _ _ _ _)
      | (with_reducible exact ih4 _ _ _ _ _)
      | (with_reducible exact ih5 _ _ _ _)
      | (with_reducible exact ih6 _ _ _ _ _)
      | (with_reducible exact ih7 _ _ _ _)
      | (with_reducible exact grommetref11_Digits.mono _ _ _)
      | (with_reducible exact grommetref11_has.mono _ _ _)
      | (with_reducible exact grommetref11_value.mono _ _ _)
      | (with_reducible exact LeO.refl _)
      | (with_reducible exact LeO.none _)
      | (with_reducible refine LeO.ite ?_ ?_)
      | (with_reducible refine LeO.bind ?_ (fun _ => ?_))
      | exact ih0 _ _ _ _
      | exact ih1 _ _ _
      | exact ih2 _ _ _ _ _
      | exact ih3 _ _ _ _ _ _
      | exact ih4 _ _ _ _ _
      | exact ih5 _ _ _ _
      | exact ih6 _ _ _ _ _
      | exact ih7 _ _ _ _
      | exact grommetref11_Digits.mono _ _ _
      | exact grommetref11_has.mono _ _ _
      | exact grommetref11_value.mono _ _ _
      | exact LeO.none _
      | refine LeO.ite ?_ ?_
      | refine LeO.bind ?_ (fun _ => ?_)
    · intro y0 y1 y2 y3 y4
      unfold grommetref11_Int.j6
      repeat' first
      | (with_reducible exact ih0 _ _ _ _)
      | (with_reducible exact ih1 _ _ _)
      | (with_reducible exact ih2 _ _ _ _ _)
      | (with_reducible exact ih3 _ _ _ _ _ _)
      | (with_reducible exact ih4 _ _ _ _ _)
      | (with_reducible exact ih5 _ _ _ _)
      | (with_reducible exact ih6 _ _ _ _ _)
      | (with_reducible exact ih7 _ _ _ _)
      | (with_reducible exact grommetref11_Digits.mono _ _ _)
      | (with_reducible exact grommetref11_has.mono _ _ _)
      | (with_reducible exact grommetref11_value.mono _ _ _)
      | (with_reducible exact LeO.refl _)
      | (with_reducible exact LeO.none _)
      | (with_reducible refine LeO.ite ?_ ?_)
      | (with_reducible refine LeO.bind ?_ (fun _ => ?_))
      | exact ih0 _ _ _ _
      | exact ih1 _ _ _
      | exact ih2 _ _ _ _ _
      | exact ih3 _ _ _ _ _ _
      | exact ih4 _ _ _ _ _
      | exact ih5 _ _ _ _
      | exact ih6 _ _ _ _ _
      | exact ih7 _ _ _ _
      | exact grommetref11_Digits.mono _ _ _
      | exact grommetref11_has.mono _ _ _
      | exact grommetref11_value.mono _ _ _
      | exact LeO.none _
      | refine LeO.ite ?_ ?_
      | refine LeO.bind ?_ (fun _ => ?_)
    · intro y0 y1 y2 y3
      unfold grommetref11_Int.j7
      repeat' first
      | (with_reducible exact ih0 _ _ _ _)
      | (with_reducible exact ih1 _ _ _)
      | (with_reducible exact ih2 _ _ _ _ _)
      | (with_reducible exact ih3 _ _ _ _ _ _)
      | (with_reducible exact ih4 _ _ _ _ _)
      | (with_reducible exact ih5 _ _ _ _)
      | (with_reducible exact ih6 _ _ _ _ _)
      | (with_reducible exact ih7 _ _ _ _)
      | (with_reducible exact grommetref11_Digits.mono _ _ _)
      | (with_reducible exact grommetref11_has.mono _ _ _)
      | (with_reducible exact grommetref11_value.mono _ _ _)
      | (with_reducible exact LeO.refl _)
      | (with_reducible exact LeO.none _)
      | (with_reducible refine LeO.ite ?_ ?_)
      | (with_reducible refine LeO.bind ?_ (fun _ => ?_))
      | exact ih0 _ _ _ _
      | exact ih1 _ _ _
      | exact ih2 _ _ _ _ _
      | exact ih3 _ _ _ _ _ _
      | exact ih4 _ _ _ _ _
      | exact ih5 _ _ _ _
      | exact ih6 _ _ _ _ _
      | exact ih7 _ _ _ _
      | exact grommetref11_Digits.mono _ _ _
      | exact grommetref11_has.mono _ _ _
      | exact grommetref11_value.mono _ _ _
      | exact LeO.none _
      | refine LeO.ite ?_ ?_
      | refine LeO.bind ?_ (fun _ => ?_)
theorem grommetref11_Int.mono : ∀ a0 a1 k, LeO (grommetref11_Int.f k a0 a1) (grommetref11_Int.f (k + 1) a0 a1) := by
  intro a0 a1 k
  obtain ⟨ih0, ih1, ih2, ih3, ih4, ih5, ih6, ih7⟩ := grommetref11_Int.mono_l k
  unfold grommetref11_Int.f
  repeat' first
      | (with_reducible exact ih0 _ _ _ _)
      | (with_reducible exact ih1 _ _ _)
      | (with_reducible exact ih2 _ _ _ _ _)
      | (with_reducible exact ih3 _ _ _ _ _ _)
      | (with_reducible exact ih4 _ _ _ _ _)
      | (with_reducible exact ih5 _ _ _ _)
      | (with_reducible exact ih6 _ _ _ _ _)
      | (with_reducible exact ih7 _ _ _ _)
      | (with_reducible exact grommetref11_Digits.mono _ _ _)
      | (with_reducible exact grommetref11_has.mono _ _ _)
      | (with_reducible exact grommetref11_value.mono _ _ _)
      | (with_reducible exact LeO.refl _)
      | (with_reducible exact LeO.none _)
      | (with_reducible refine LeO.ite ?_ ?_)
      | (with_reducible refine LeO.bind ?_ (fun _ => ?_))
      | exact ih0 _ _ _ _
      | exact ih1 _ _ _
      | exact ih2 _ _ _ _ _
      | exact ih3 _ _ _ _ _ _
      | exact ih4 _ _ _ _ _
      | exact ih5 _ _ _ _
      | exact ih6 _ _ _ _ _
      | exact ih7 _ _ _ _
      | exact grommetref11_Digits.mono _ _ _
      | exact grommetref11_has.mono _ _ _
      | exact grommetref11_value.mono _ _ _
      | exact LeO.none _
      | refine LeO.ite ?_ ?_
      | refine LeO.bind ?_ (fun _ => ?_)
set_option maxHeartbeats 8000000 in
set_option maxRecDepth 100000 in
theorem grommetref11_Int.calls (k : Nat) (a0 : ByteArray) (a1 : Int) (r1 : Int) (r2 : Int) (w : World) (h : grommetref11_Int.f k a0 a1 = some (r1, r2)) :
    Calls Try.prog 10 #[.string a0, .int .i64 a1] w fun e w' => e = .returned (.tuple #[.int .u64 r1, .int .i64 r2]) ∧ Below w.heap.size w w' := by
  have HB := Aside0.mk (Below.refl w.heap.size w)
  have H : ((grommetref11_starts.f a0 (⟨#[45]⟩ : ByteArray)).bind fun t180 => ((grommetref11_starts.f a0 (⟨#[43]⟩ : ByteArray)).bind fun t181 => (if t180 = true then (grommetref11_Int.j0 k a0 a1 t180 true) else (grommetref11_Int.j0 k a0 a1 t180 t181)))) = some (r1, r2) := h
  clear h
  replace H := Option.bind_eq_some_iff.mp H
  obtain ⟨t180, A30, H⟩ := H
  replace H : ((grommetref11_starts.f a0 (⟨#[43]⟩ : ByteArray)).bind fun t181 => (if t180 = true then (grommetref11_Int.j0 k a0 a1 t180 true) else (grommetref11_Int.j0 k a0 a1 t180 t181))) = some (r1, r2) := H
  have A3 := Aside0.mk A30
  clear A30
  replace H := Option.bind_eq_some_iff.mp H
  obtain ⟨t181, A40, H⟩ := H
  replace H : (if t180 = true then (grommetref11_Int.j0 k a0 a1 t180 true) else (grommetref11_Int.j0 k a0 a1 t180 t181)) = some (r1, r2) := H
  have A4 := Aside0.mk A40
  clear A40
  have HC5 := Aside0.mk H
  clear H
  go_enter Try.func10, Try.ntmps10
  go_upto_region 3 with (first | ((with_reducible refine gate_callee (f := 19) rfl ?_); refine goesL_ (some 22) rfl rfl Try.func19 (by kernel_rfl) rfl #[.string a0, .string (⟨#[45]⟩ : ByteArray)] rfl (by (try simp only [List.map_toArray, List.map_cons, List.map_nil]); first | done | rfl | (simp only [List.length_drop, List.length_take]; rfl)) ?_; (with_reducible refine (grommetref11_starts.calls a0 (⟨#[45]⟩ : ByteArray) t180 _ A3.out).mono ?_); rintro e w' ⟨rfl, ⟨nd, rfl⟩⟩; refine ⟨_, rfl, ?_⟩) | ((with_reducible refine gate_callee (f := 19) rfl ?_); refine goesL_ (some 24) rfl rfl Try.func19 (by kernel_rfl) rfl #[.string a0, .string (⟨#[43]⟩ : ByteArray)] rfl (by (try simp only [List.map_toArray, List.map_cons, List.map_nil]); first | done | rfl | (simp only [List.length_drop, List.length_take]; rfl)) ?_; (with_reducible refine (grommetref11_starts.calls a0 (⟨#[43]⟩ : ByteArray) t181 _ A4.out).mono ?_); rintro e w' ⟨rfl, ⟨nd, rfl⟩⟩; refine ⟨_, rfl, ?_⟩))
  (try simp only [Act.put, List.setIfInBounds_toArray, List.set_cons_zero, List.set_cons_succ])
  go_cut [28] (fun v28 wc => ∃ (kq : Nat) (x28_4 : Bool), v28 = .bool x28_4 ∧ Aside0 (grommetref11_Int.j0 kq a0 a1 t180 x28_4 = some (r1, r2)) ∧ Aside0 (kq ≤ k) ∧ Aside0 (Below w.heap.size w wc))
  case first =>
    have H := HC5.out
    clear HC5
    by_cases c6 : t180 = true
    · subst c6
      have H1 : (grommetref11_Int.j0 k a0 a1 true true) = some (r1, r2) := by rw [if_pos rfl] at H; exact H
      clear H
      have H := H1
      clear H1
      have H' := Aside0.mk H
      clear H
      go_wp2
      go_meet
      case rel => exact ⟨_, (true), (by first | rfl | (simp; done) | (simp [*]; done)), H', ⟨by first | omega | exact Nat.le_refl _⟩, ⟨by repeat (first | (with_reducible first | exact HB.out | apply below_alloc | apply pw_below_drewN | apply below_drew1) | exact HB.out)⟩⟩
    · replace c6 := Bool.eq_false_iff.mpr c6
      subst c6
      have H1 : (grommetref11_Int.j0 k a0 a1 false t181) = some (r1, r2) := by rw [if_neg (show ¬ (false = true) by decide)] at H; exact H
      clear H
      have H := H1
      clear H1
      have H' := Aside0.mk H
      clear H
      go_wp2
      go_meet
      case rel => exact ⟨_, (t181), (by first | rfl | (simp; done) | (simp [*]; done)), H', ⟨by first | omega | exact Nat.le_refl _⟩, ⟨by repeat (first | (with_reducible first | exact HB.out | apply below_alloc | apply pw_below_drewN | apply below_drew1) | exact HB.out)⟩⟩
  case rest =>
    clear HC5
    try clear c1
    try clear p2
    try clear c6
    obtain ⟨kq, x28_4, rfl, HA, HJ4, HB⟩ := hcut
    cases kq with
    | zero => exact absurd HA.out (by simp [grommetref11_Int.j0])
    | succ kj4 =>
      have H := HA.out
      clear HA
      simp only [grommetref11_Int.j0] at H
      have HC7 := Aside0.mk H
      clear H
      go_upto_if 28 with (fail)
      go_cut [0] (fun v0 wc => ∃ (kq : Nat) (x0_6 : ByteArray), v0 = .string x0_6 ∧ Aside0 (grommetref11_Int.j1 kq x0_6 a1 t180 = some (r1, r2)) ∧ Aside0 (kq ≤ kj4) ∧ Aside0 (Below w.heap.size w wc))
      case first =>
        have H := HC7.out
        clear HC7
        by_cases c8 : x28_4 = true
        · subst c8
          have H1 : (if 1 ≤ (a0.size : Int) then (grommetref11_Int.j1 kj4 (a0.extract 1 a0.size) a1 t180) else (none)) = some (r1, r2) := by rw [if_pos rfl] at H; exact H
          clear H
          have H := H1
          clear H1
          by_cases c9 : 1 ≤ (a0.size : Int)
          · rw [if_pos c9] at H
            have c9b0 := eq_true c9
            have c9b1 : decide (1 ≤ (a0.size : Int)) = true := decide_eq_true c9
            clear c9
            have H' := Aside0.mk H
            clear H
            go_wp2
            go_meet
            case rel => exact ⟨_, (a0.extract 1 a0.size), (by first | rfl | (simp; done) | (simp [*]; done)), H', ⟨by have := HJ4.out; first | omega | exact Nat.le_refl _⟩, ⟨by repeat (first | (with_reducible first | exact HB.out | apply below_alloc | apply pw_below_drewN | apply below_drew1) | exact HB.out)⟩⟩
          · rw [if_neg c9] at H
            exact absurd H (by simp)
        · replace c8 := Bool.eq_false_iff.mpr c8
          subst c8
          have H1 : (grommetref11_Int.j1 kj4 a0 a1 t180) = some (r1, r2) := by rw [if_neg (show ¬ (false = true) by decide)] at H; exact H
          clear H
          have H := H1
          clear H1
          have H' := Aside0.mk H
          clear H
          go_wp2
          go_meet
          case rel => exact ⟨_, (a0), (by first | rfl | (simp; done) | (simp [*]; done)), H', ⟨by have := HJ4.out; first | omega | exact Nat.le_refl _⟩, ⟨by repeat (first | (with_reducible first | exact HB.out | apply below_alloc | apply pw_below_drewN | apply below_drew1) | exact HB.out)⟩⟩
      case rest =>
        clear HC7
        try clear c1
        try clear p2
        try clear c6
        try clear c8
        try clear c9
        try clear c9b0
        try clear c9b1
        try clear p2
        obtain ⟨kq, x0_6, rfl, HA, HJ6, HB⟩ := hcut
        cases kq with
        | zero => exact absurd HA.out (by simp [grommetref11_Int.j1])
        | succ kj6 =>
          have H := HA.out
          clear HA
          simp only [grommetref11_Int.j1] at H
          replace H := Option.bind_eq_some_iff.mp H
          obtain ⟨t182, A100, H⟩ := H
          replace H : ((grommetref11_starts.f x0_6 (⟨#[105, 110, 102]⟩ : ByteArray)).bind fun t183 => ((grommetref11_starts.f x0_6 (⟨#[110, 97, 110]⟩ : ByteArray)).bind fun t184 => (if t183 = true then (grommetref11_Int.j2 kj6 x0_6 a1 t180 t182 true) else (grommetref11_Int.j2 kj6 x0_6 a1 t180 t182 t184)))) = some (r1, r2) := H
          have A10 := Aside0.mk A100
          clear A100
          replace H := Option.bind_eq_some_iff.mp H
          obtain ⟨t183, A110, H⟩ := H
          replace H : ((grommetref11_starts.f x0_6 (⟨#[110, 97, 110]⟩ : ByteArray)).bind fun t184 => (if t183 = true then (grommetref11_Int.j2 kj6 x0_6 a1 t180 t182 true) else (grommetref11_Int.j2 kj6 x0_6 a1 t180 t182 t184))) = some (r1, r2) := H
          have A11 := Aside0.mk A110
          clear A110
          replace H := Option.bind_eq_some_iff.mp H
          obtain ⟨t184, A120, H⟩ := H
          replace H : (if t183 = true then (grommetref11_Int.j2 kj6 x0_6 a1 t180 t182 true) else (grommetref11_Int.j2 kj6 x0_6 a1 t180 t182 t184)) = some (r1, r2) := H
          have A12 := Aside0.mk A120
          clear A120
          have HC13 := Aside0.mk H
          clear H
          go_upto_region 8 with (first | ((with_reducible refine gate_callee (f := 19) rfl ?_); refine goesL_ (some 32) rfl rfl Try.func19 (by kernel_rfl) rfl #[.string x0_6, .string (⟨#[48, 120]⟩ : ByteArray)] rfl (by (try simp only [List.map_toArray, List.map_cons, List.map_nil]); first | done | rfl | (simp only [List.length_drop, List.length_take]; rfl)) ?_; (with_reducible refine (grommetref11_starts.calls x0_6 (⟨#[48, 120]⟩ : ByteArray) t182 _ A10.out).mono ?_); rintro e w' ⟨rfl, ⟨nd, rfl⟩⟩; refine ⟨_, rfl, ?_⟩) | ((with_reducible refine gate_callee (f := 19) rfl ?_); refine goesL_ (some 34) rfl rfl Try.func19 (by kernel_rfl) rfl #[.string x0_6, .string (⟨#[105, 110, 102]⟩ : ByteArray)] rfl (by (try simp only [List.map_toArray, List.map_cons, List.map_nil]); first | done | rfl | (simp only [List.length_drop, List.length_take]; rfl)) ?_; (with_reducible refine (grommetref11_starts.calls x0_6 (⟨#[105, 110, 102]⟩ : ByteArray) t183 _ A11.out).mono ?_); rintro e w' ⟨rfl, ⟨nd, rfl⟩⟩; refine ⟨_, rfl, ?_⟩) | ((with_reducible refine gate_callee (f := 19) rfl ?_); refine goesL_ (some 36) rfl rfl Try.func19 (by kernel_rfl) rfl #[.string x0_6, .string (⟨#[110, 97, 110]⟩ : ByteArray)] rfl (by (try simp only [List.map_toArray, List.map_cons, List.map_nil]); first | done | rfl | (simp only [List.length_drop, List.length_take]; rfl)) ?_; (with_reducible refine (grommetref11_starts.calls x0_6 (⟨#[110, 97, 110]⟩ : ByteArray) t184 _ A12.out).mono ?_); rintro e w' ⟨rfl, ⟨nd, rfl⟩⟩; refine ⟨_, rfl, ?_⟩))
          (try simp only [Act.put, List.setIfInBounds_toArray, List.set_cons_zero, List.set_cons_succ])
          go_cut [11] (fun v11 wc => ∃ (kq : Nat) (x11_12 : Bool), v11 = .bool x11_12 ∧ Aside0 (grommetref11_Int.j2 kq x0_6 a1 t180 t182 x11_12 = some (r1, r2)) ∧ Aside0 (kq ≤ kj6) ∧ Aside0 (Below w.heap.size w wc))
          case first =>
            have H := HC13.out
            clear HC13
            by_cases c14 : t183 = true
            · subst c14
              have H1 : (grommetref11_Int.j2 kj6 x0_6 a1 t180 t182 true) = some (r1, r2) := by rw [if_pos rfl] at H; exact H
              clear H
              have H := H1
              clear H1
              have H' := Aside0.mk H
              clear H
              go_wp2
              go_meet
              case rel => exact ⟨_, (true), (by first | rfl | (simp; done) | (simp [*]; done)), H', ⟨by have := HJ4.out; have := HJ6.out; first | omega | exact Nat.le_refl _⟩, ⟨by repeat (first | (with_reducible first | exact HB.out | apply below_alloc | apply pw_below_drewN | apply below_drew1) | exact HB.out)⟩⟩
            · replace c14 := Bool.eq_false_iff.mpr c14
              subst c14
              have H1 : (grommetref11_Int.j2 kj6 x0_6 a1 t180 t182 t184) = some (r1, r2) := by rw [if_neg (show ¬ (false = true) by decide)] at H; exact H
              clear H
              have H := H1
              clear H1
              have H' := Aside0.mk H
              clear H
              go_wp2
              go_meet
              case rel => exact ⟨_, (t184), (by first | rfl | (simp; done) | (simp [*]; done)), H', ⟨by have := HJ4.out; have := HJ6.out; first | omega | exact Nat.le_refl _⟩, ⟨by repeat (first | (with_reducible first | exact HB.out | apply below_alloc | apply pw_below_drewN | apply below_drew1) | exact HB.out)⟩⟩
          case rest =>
            clear HC13
            try clear c1
            try clear p2
            try clear c6
            try clear c8
            try clear c9
            try clear c9b0
            try clear c9b1
            try clear c10
            try clear c14
            try clear p2
            obtain ⟨kq, x11_12, rfl, HA, HJ12, HB⟩ := hcut
            cases kq with
            | zero => exact absurd HA.out (by simp [grommetref11_Int.j2])
            | succ kj12 =>
              have H := HA.out
              clear HA
              simp only [grommetref11_Int.j2] at H
              have HC15 := Aside0.mk H
              clear H
              go_upto_region 9 with (fail)
              go_cut [53] (fun v53 wc => ∃ (kq : Nat) (x53_14 : Bool), v53 = .bool x53_14 ∧ Aside0 (grommetref11_Int.j3 kq x0_6 a1 t180 t182 x11_12 x53_14 = some (r1, r2)) ∧ Aside0 (kq ≤ kj12) ∧ Aside0 (Below w.heap.size w wc))
              case first =>
                have H := HC15.out
                clear HC15
                by_cases c16 : (x0_6.size : Int) > 0
                · rw [if_pos c16] at H
                  have c16b0 : decide (0 < (x0_6.size : Int)) = true := decide_eq_true c16
                  have c16b1 : decide (0 < x0_6.size) = true := decide_eq_true (by omega)
                  clear c16
                  (first | rw [c16b0] | (simp only [i64_w, i32_w]; rw [c16b0]) | skip)
                  by_cases c17 : 0 < (x0_6.size : Int)
                  · rw [if_pos c17] at H
                    have c17b0 : decide (0 < (x0_6.size : Int)) = true := decide_eq_true c17
                    have c17b1 : decide (0 < x0_6.size) = true := decide_eq_true (by omega)
                    clear c17
                    by_cases c19 : (bt x0_6 0) ≥ 48
                    · rw [if_pos c19] at H
                      have c19b0 : decide (48 ≤ (bt x0_6 0)) = true := decide_eq_true c19
                      clear c19
                      have H' := Aside0.mk H
                      clear H
                      have p18 : 0 ≤ (0 : Int) := (by omega)
                      have q18 : 0 < x0_6.size := (by have : (0 : Int) < (x0_6.size : Int) := of_decide_eq_true (by first | (with_reducible assumption) | assumption); omega)
                      have hx18 : ∀ h : 0 < x0_6.size, ((x0_6[0]'h).toNat : Int) = bt x0_6 0 := bt_at x0_6 0
                      clear p18
                      have qi18 : (0 < (x0_6.size : Int)) = True := eq_true (of_decide_eq_true (by first | (with_reducible assumption) | assumption))
                      replace q18 := eq_true q18
                      have p20 : 0 ≤ (0 : Int) := (by omega)
                      have q20 : 0 < x0_6.size := (by have : (0 : Int) < (x0_6.size : Int) := of_decide_eq_true (by first | (with_reducible assumption) | assumption); omega)
                      have hx20 : ∀ h : 0 < x0_6.size, ((x0_6[0]'h).toNat : Int) = bt x0_6 0 := bt_at x0_6 0
                      clear p20
                      have qi20 : (0 < (x0_6.size : Int)) = True := eq_true (of_decide_eq_true (by first | (with_reducible assumption) | assumption))
                      replace q20 := eq_true q20
                      go_wp2
                      go_meet
                      case rel => exact ⟨_, (decide ((bt x0_6 0) ≤ 57)), (by first | rfl | (simp; done) | (simp [*]; done)), H', ⟨by have := HJ4.out; have := HJ6.out; have := HJ12.out; first | omega | exact Nat.le_refl _⟩, ⟨by repeat (first | (with_reducible first | exact HB.out | apply below_alloc | apply pw_below_drewN | apply below_drew1) | exact HB.out)⟩⟩
                    · rw [if_neg c19] at H
                      have c19b0 : decide (48 ≤ (bt x0_6 0)) = false := decide_eq_false c19
                      clear c19
                      have H' := Aside0.mk H
                      clear H
                      have p18 : 0 ≤ (0 : Int) := (by omega)
                      have q18 : 0 < x0_6.size := (by have : (0 : Int) < (x0_6.size : Int) := of_decide_eq_true (by first | (with_reducible assumption) | assumption); omega)
                      have hx18 : ∀ h : 0 < x0_6.size, ((x0_6[0]'h).toNat : Int) = bt x0_6 0 := bt_at x0_6 0
                      clear p18
                      have qi18 : (0 < (x0_6.size : Int)) = True := eq_true (of_decide_eq_true (by first | (with_reducible assumption) | assumption))
                      replace q18 := eq_true q18
                      go_wp2
                      go_meet
                      case rel => exact ⟨_, (false), (by first | rfl | (simp; done) | (simp [*]; done)), H', ⟨by have := HJ4.out; have := HJ6.out; have := HJ12.out; first | omega | exact Nat.le_refl _⟩, ⟨by repeat (first | (with_reducible first | exact HB.out | apply below_alloc | apply pw_below_drewN | apply below_drew1) | exact HB.out)⟩⟩
                  · rw [if_neg c17] at H
                    exact absurd H (by simp)
                · rw [if_neg c16] at H
                  have c16b0 : decide (0 < (x0_6.size : Int)) = false := decide_eq_false c16
                  have c16b1 : decide (0 < x0_6.size) = false := decide_eq_false (by omega)
                  clear c16
                  (first | rw [c16b0] | (simp only [i64_w, i32_w]; rw [c16b0]) | skip)
                  have H' := Aside0.mk H
                  clear H
                  go_wp2
                  go_meet
                  case rel => exact ⟨_, (false), (by first | rfl | (simp; done) | (simp [*]; done)), H', ⟨by have := HJ4.out; have := HJ6.out; have := HJ12.out; first | omega | exact Nat.le_refl _⟩, ⟨by repeat (first | (with_reducible first | exact HB.out | apply below_alloc | apply pw_below_drewN | apply below_drew1) | exact HB.out)⟩⟩
              case rest =>
                clear HC15
                try clear c1
                try clear p1
                try clear q1
                try clear hx1
                try clear qi1
                try clear p2
                try clear q2
                try clear hx2
                try clear qi2
                try clear c6
                try clear c8
                try clear c9
                try clear c9b0
                try clear c9b1
                try clear c10
                try clear c14
                try clear c16
                try clear c16b0
                try clear c16b1
                try clear c17
                try clear c17b0
                try clear c17b1
                try clear p18
                try clear q18
                try clear hx18
                try clear qi18
                try clear c19
                try clear c19b0
                try clear p20
                try clear q20
                try clear hx20
                try clear qi20
                try clear p18
                try clear p2
                try clear p20
                try clear q18
                try clear q20
                obtain ⟨kq, x53_14, rfl, HA, HJ14, HB⟩ := hcut
                cases kq with
                | zero => exact absurd HA.out (by simp [grommetref11_Int.j3])
                | succ kj14 =>
                  have H := HA.out
                  clear HA
                  simp only [grommetref11_Int.j3] at H
                  have HC21 := Aside0.mk H
                  clear H
                  go_upto_if 53 with (fail)
                  go_cut [11] (fun v11 wc => ∃ (kq : Nat) (x11_20 : Bool), v11 = .bool x11_20 ∧ Aside0 (grommetref11_Int.j4 kq x0_6 a1 t180 t182 x11_20 = some (r1, r2)) ∧ Aside0 (kq ≤ kj14) ∧ Aside0 (Below w.heap.size w wc))
                  case first =>
                    have H := HC21.out
                    clear HC21
                    by_cases c22 : x53_14 = true
                    · subst c22
                      have H1 : (if t182 = true then ((grommetref11_has.f kj14 x0_6 (⟨#[46, 112, 80]⟩ : ByteArray)).bind fun t185 => (if x11_12 = true then (grommetref11_Int.j4 kj14 x0_6 a1 t180 t182 true) else (if t185 = true then (grommetref11_Int.j4 kj14 x0_6 a1 t180 t182 true) else (grommetref11_Int.j4 kj14 x0_6 a1 t180 t182 false)))) else ((grommetref11_has.f kj14 x0_6 (⟨#[46, 101, 69]⟩ : ByteArray)).bind fun t186 => (if x11_12 = true then (grommetref11_Int.j4 kj14 x0_6 a1 t180 t182 true) else (grommetref11_Int.j4 kj14 x0_6 a1 t180 t182 t186)))) = some (r1, r2) := by rw [if_pos rfl] at H; exact H
                      clear H
                      have H := H1
                      clear H1
                      by_cases c23 : t182 = true
                      · subst c23
                        have H1 : ((grommetref11_has.f kj14 x0_6 (⟨#[46, 112, 80]⟩ : ByteArray)).bind fun t185 => (if x11_12 = true then (grommetref11_Int.j4 kj14 x0_6 a1 t180 true true) else (if t185 = true then (grommetref11_Int.j4 kj14 x0_6 a1 t180 true true) else (grommetref11_Int.j4 kj14 x0_6 a1 t180 true false)))) = some (r1, r2) := by rw [if_pos rfl] at H; exact H
                        clear H
                        have H := H1
                        clear H1
                        replace H := Option.bind_eq_some_iff.mp H
                        obtain ⟨t185, A240, H⟩ := H
                        replace H : (if x11_12 = true then (grommetref11_Int.j4 kj14 x0_6 a1 t180 true true) else (if t185 = true then (grommetref11_Int.j4 kj14 x0_6 a1 t180 true true) else (grommetref11_Int.j4 kj14 x0_6 a1 t180 true false))) = some (r1, r2) := H
                        have A24 := Aside0.mk A240
                        clear A240
                        by_cases c25 : x11_12 = true
                        · subst c25
                          have H1 : (grommetref11_Int.j4 kj14 x0_6 a1 t180 true true) = some (r1, r2) := by rw [if_pos rfl] at H; exact H
                          clear H
                          have H := H1
                          clear H1
                          have H' := Aside0.mk H
                          clear H
                          go_wp2_with (first | (go_at_call 20; (with_reducible refine (grommetref11_has.calls kj14 x0_6 (⟨#[46, 112, 80]⟩ : ByteArray) t185 _ A24.out).mono ?_); rintro e w' ⟨rfl, ⟨nd, rfl⟩⟩))
                          go_meet
                          case rel => exact ⟨_, (true), (by first | rfl | (simp; done) | (simp [*]; done)), H', ⟨by have := HJ4.out; have := HJ6.out; have := HJ12.out; have := HJ14.out; first | omega | exact Nat.le_refl _⟩, ⟨by repeat (first | (with_reducible first | exact HB.out | apply below_alloc | apply pw_below_drewN | apply below_drew1) | exact HB.out)⟩⟩
                        · replace c25 := Bool.eq_false_iff.mpr c25
                          subst c25
                          have H1 : (if t185 = true then (grommetref11_Int.j4 kj14 x0_6 a1 t180 true true) else (grommetref11_Int.j4 kj14 x0_6 a1 t180 true false)) = some (r1, r2) := by rw [if_neg (show ¬ (false = true) by decide)] at H; exact H
                          clear H
                          have H := H1
                          clear H1
                          by_cases c26 : t185 = true
                          · subst c26
                            have H1 : (grommetref11_Int.j4 kj14 x0_6 a1 t180 true true) = some (r1, r2) := by rw [if_pos rfl] at H; exact H
                            clear H
                            have H := H1
                            clear H1
                            have H' := Aside0.mk H
                            clear H
                            go_wp2_with (first | (go_at_call 20; (with_reducible refine (grommetref11_has.calls kj14 x0_6 (⟨#[46, 112, 80]⟩ : ByteArray) true _ A24.out).mono ?_); rintro e w' ⟨rfl, ⟨nd, rfl⟩⟩))
                            go_meet
                            case rel => exact ⟨_, (true), (by first | rfl | (simp; done) | (simp [*]; done)), H', ⟨by have := HJ4.out; have := HJ6.out; have := HJ12.out; have := HJ14.out; first | omega | exact Nat.le_refl _⟩, ⟨by repeat (first | (with_reducible first | exact HB.out | apply below_alloc | apply pw_below_drewN | apply below_drew1) | exact HB.out)⟩⟩
                          · replace c26 := Bool.eq_false_iff.mpr c26
                            subst c26
                            have H1 : (grommetref11_Int.j4 kj14 x0_6 a1 t180 true false) = some (r1, r2) := by rw [if_neg (show ¬ (false = true) by decide)] at H; exact H
                            clear H
                            have H := H1
                            clear H1
                            have H' := Aside0.mk H
                            clear H
                            go_wp2_with (first | (go_at_call 20; (with_reducible refine (grommetref11_has.calls kj14 x0_6 (⟨#[46, 112, 80]⟩ : ByteArray) false _ A24.out).mono ?_); rintro e w' ⟨rfl, ⟨nd, rfl⟩⟩))
                            go_meet
                            case rel => exact ⟨_, (false), (by first | rfl | (simp; done) | (simp [*]; done)), H', ⟨by have := HJ4.out; have := HJ6.out; have := HJ12.out; have := HJ14.out; first | omega | exact Nat.le_refl _⟩, ⟨by repeat (first | (with_reducible first | exact HB.out | apply below_alloc | apply pw_below_drewN | apply below_drew1) | exact HB.out)⟩⟩
                      · replace c23 := Bool.eq_false_iff.mpr c23
                        subst c23
                        have H1 : ((grommetref11_has.f kj14 x0_6 (⟨#[46, 101, 69]⟩ : ByteArray)).bind fun t186 => (if x11_12 = true then (grommetref11_Int.j4 kj14 x0_6 a1 t180 false true) else (grommetref11_Int.j4 kj14 x0_6 a1 t180 false t186))) = some (r1, r2) := by rw [if_neg (show ¬ (false = true) by decide)] at H; exact H
                        clear H
                        have H := H1
                        clear H1
                        replace H := Option.bind_eq_some_iff.mp H
                        obtain ⟨t186, A270, H⟩ := H
                        replace H : (if x11_12 = true then (grommetref11_Int.j4 kj14 x0_6 a1 t180 false true) else (grommetref11_Int.j4 kj14 x0_6 a1 t180 false t186)) = some (r1, r2) := H
                        have A27 := Aside0.mk A270
                        clear A270
                        by_cases c28 : x11_12 = true
                        · subst c28
                          have H1 : (grommetref11_Int.j4 kj14 x0_6 a1 t180 false true) = some (r1, r2) := by rw [if_pos rfl] at H; exact H
                          clear H
                          have H := H1
                          clear H1
                          have H' := Aside0.mk H
                          clear H
                          go_wp2_with (first | (go_at_call 20; (with_reducible refine (grommetref11_has.calls kj14 x0_6 (⟨#[46, 101, 69]⟩ : ByteArray) t186 _ A27.out).mono ?_); rintro e w' ⟨rfl, ⟨nd, rfl⟩⟩))
                          go_meet
                          case rel => exact ⟨_, (true), (by first | rfl | (simp; done) | (simp [*]; done)), H', ⟨by have := HJ4.out; have := HJ6.out; have := HJ12.out; have := HJ14.out; first | omega | exact Nat.le_refl _⟩, ⟨by repeat (first | (with_reducible first | exact HB.out | apply below_alloc | apply pw_below_drewN | apply below_drew1) | exact HB.out)⟩⟩
                        · replace c28 := Bool.eq_false_iff.mpr c28
                          subst c28
                          have H1 : (grommetref11_Int.j4 kj14 x0_6 a1 t180 false t186) = some (r1, r2) := by rw [if_neg (show ¬ (false = true) by decide)] at H; exact H
                          clear H
                          have H := H1
                          clear H1
                          have H' := Aside0.mk H
                          clear H
                          go_wp2_with (first | (go_at_call 20; (with_reducible refine (grommetref11_has.calls kj14 x0_6 (⟨#[46, 101, 69]⟩ : ByteArray) t186 _ A27.out).mono ?_); rintro e w' ⟨rfl, ⟨nd, rfl⟩⟩))
                          go_meet
                          case rel => exact ⟨_, (t186), (by first | rfl | (simp; done) | (simp [*]; done)), H', ⟨by have := HJ4.out; have := HJ6.out; have := HJ12.out; have := HJ14.out; first | omega | exact Nat.le_refl _⟩, ⟨by repeat (first | (with_reducible first | exact HB.out | apply below_alloc | apply pw_below_drewN | apply below_drew1) | exact HB.out)⟩⟩
                    · replace c22 := Bool.eq_false_iff.mpr c22
                      subst c22
                      have H1 : (grommetref11_Int.j4 kj14 x0_6 a1 t180 t182 x11_12) = some (r1, r2) := by rw [if_neg (show ¬ (false = true) by decide)] at H; exact H
                      clear H
                      have H := H1
                      clear H1
                      have H' := Aside0.mk H
                      clear H
                      go_wp2
                      go_meet
                      case rel => exact ⟨_, (x11_12), (by first | rfl | (simp; done) | (simp [*]; done)), H', ⟨by have := HJ4.out; have := HJ6.out; have := HJ12.out; have := HJ14.out; first | omega | exact Nat.le_refl _⟩, ⟨by repeat (first | (with_reducible first | exact HB.out | apply below_alloc | apply pw_below_drewN | apply below_drew1) | exact HB.out)⟩⟩
                  case rest =>
                    clear HC21
                    try clear c1
                    try clear p1
                    try clear q1
                    try clear hx1
                    try clear qi1
                    try clear c2
                    try clear p2
                    try clear q2
                    try clear hx2
                    try clear qi2
                    try clear c6
                    try clear c8
                    try clear c9
                    try clear c9b0
                    try clear c9b1
                    try clear c10
                    try clear c14
                    try clear c16
                    try clear c16b0
                    try clear c16b1
                    try clear c17
                    try clear c17b0
                    try clear c17b1
                    try clear p18
                    try clear q18
                    try clear hx18
                    try clear qi18
                    try clear c19
                    try clear c19b0
                    try clear p20
                    try clear q20
                    try clear hx20
                    try clear qi20
                    try clear c22
                    try clear c23
                    try clear c25
                    try clear c26
                    try clear c28
                    try clear p1
                    try clear p18
                    try clear p2
                    try clear p20
                    try clear q1
                    try clear q18
                    try clear q2
                    try clear q20
                    obtain ⟨kq, x11_20, rfl, HA, HJ20, HB⟩ := hcut
                    cases kq with
                    | zero => exact absurd HA.out (by simp [grommetref11_Int.j4])
                    | succ kj20 =>
                      have H := HA.out
                      clear HA
                      simp only [grommetref11_Int.j4] at H
                      by_cases c29 : x11_20 = true
                      · subst c29
                        have H1 : (some (0, 3)) = some (r1, r2) := by rw [if_pos rfl] at H; exact H
                        clear H
                        have H := H1
                        clear H1
                        simp only [Option.some.injEq, Prod.mk.injEq] at H
                        obtain ⟨rfl, rfl⟩ := H
                        go_wp2
                        go_ret2
                        exact ⟨by first | rfl | (simp [errW_none, errW_some] <;> rfl) | (simp [*, errW_none, errW_some] <;> rfl), by repeat (first | (with_reducible first | exact HB.out | apply below_alloc | apply pw_below_drewN | apply below_drew1) | exact HB.out)⟩
                      · replace c29 := Bool.eq_false_iff.mpr c29
                        subst c29
                        have H1 : (if t182 = true then (if 2 ≤ (x0_6.size : Int) then (grommetref11_Int.j5 kj20 (x0_6.extract 2 x0_6.size) a1 t180 16) else (none)) else (grommetref11_Int.j5 kj20 x0_6 a1 t180 10)) = some (r1, r2) := by rw [if_neg (show ¬ (false = true) by decide)] at H; exact H
                        clear H
                        have H := H1
                        clear H1
                        have HC30 := Aside0.mk H
                        clear H
                        go_upto_if 73 with (fail)
                        go_cut [0, 14] (fun v0 v14 wc => ∃ (kq : Nat) (x0_29 : ByteArray) (x14_29 : Int), v0 = .string x0_29 ∧ v14 = .int .i64 x14_29 ∧ Aside0 (grommetref11_Int.j5 kq x0_29 a1 t180 x14_29 = some (r1, r2)) ∧ Aside0 (kq ≤ kj20) ∧ Aside0 (Below w.heap.size w wc))
                        case first =>
                          have H := HC30.out
                          clear HC30
                          by_cases c31 : t182 = true
                          · subst c31
                            have H1 : (if 2 ≤ (x0_6.size : Int) then (grommetref11_Int.j5 kj20 (x0_6.extract 2 x0_6.size) a1 t180 16) else (none)) = some (r1, r2) := by rw [if_pos rfl] at H; exact H
                            clear H
                            have H := H1
                            clear H1
                            by_cases c32 : 2 ≤ (x0_6.size : Int)
                            · rw [if_pos c32] at H
                              have c32b0 := eq_true c32
                              have c32b1 : decide (2 ≤ (x0_6.size : Int)) = true := decide_eq_true c32
                              clear c32
                              have H' := Aside0.mk H
                              clear H
                              go_wp2
                              go_meet
                              case rel => exact ⟨_, (x0_6.extract 2 x0_6.size), (16), (by first | rfl | (simp; done) | (simp [*]; done)), (by first | rfl | (simp; done) | (simp [*]; done)), H', ⟨by have := HJ4.out; have := HJ6.out; have := HJ12.out; have := HJ14.out; have := HJ20.out; first | omega | exact Nat.le_refl _⟩, ⟨by repeat (first | (with_reducible first | exact HB.out | apply below_alloc | apply pw_below_drewN | apply below_drew1) | exact HB.out)⟩⟩
                            · rw [if_neg c32] at H
                              exact absurd H (by simp)
                          · replace c31 := Bool.eq_false_iff.mpr c31
                            subst c31
                            have H1 : (grommetref11_Int.j5 kj20 x0_6 a1 t180 10) = some (r1, r2) := by rw [if_neg (show ¬ (false = true) by decide)] at H; exact H
                            clear H
                            have H := H1
                            clear H1
                            have H' := Aside0.mk H
                            clear H
                            go_wp2
                            go_meet
                            case rel => exact ⟨_, (x0_6), (10), (by first | rfl | (simp; done) | (simp [*]; done)), (by first | rfl | (simp; done) | (simp [*]; done)), H', ⟨by have := HJ4.out; have := HJ6.out; have := HJ12.out; have := HJ14.out; have := HJ20.out; first | omega | exact Nat.le_refl _⟩, ⟨by repeat (first | (with_reducible first | exact HB.out | apply below_alloc | apply pw_below_drewN | apply below_drew1) | exact HB.out)⟩⟩
                        case rest =>
                          clear HC30
                          try clear c1
                          try clear p1
                          try clear q1
                          try clear hx1
                          try clear qi1
                          try clear c2
                          try clear p2
                          try clear q2
                          try clear hx2
                          try clear qi2
                          try clear c3
                          try clear c6
                          try clear c8
                          try clear c9
                          try clear c9b0
                          try clear c9b1
                          try clear c10
                          try clear c14
                          try clear c16
                          try clear c16b0
                          try clear c16b1
                          try clear c17
                          try clear c17b0
                          try clear c17b1
                          try clear p18
                          try clear q18
                          try clear hx18
                          try clear qi18
                          try clear c19
                          try clear c19b0
                          try clear p20
                          try clear q20
                          try clear hx20
                          try clear qi20
                          try clear c22
                          try clear c23
                          try clear c25
                          try clear c26
                          try clear c28
                          try clear c29
                          try clear c31
                          try clear c32
                          try clear c32b0
                          try clear c32b1
                          try clear p1
                          try clear p18
                          try clear p2
                          try clear p20
                          try clear q1
                          try clear q18
                          try clear q2
                          try clear q20
                          obtain ⟨kq, x0_29, x14_29, rfl, rfl, HA, HJ29, HB⟩ := hcut
                          cases kq with
                          | zero => exact absurd HA.out (by simp [grommetref11_Int.j5])
                          | succ kj29 =>
                            have H := HA.out
                            clear HA
                            simp only [grommetref11_Int.j5] at H
                            replace H := Option.bind_eq_some_iff.mp H
                            obtain ⟨⟨t187, t188⟩, A330, H⟩ := H
                            replace H : (if t188 = true then ((grommetref11_value.f kj29 t187 x14_29).bind fun bt191 => (if a1 = 32 then (grommetref11_Int.j6 kj29 t180 bt191.1 bt191.2 4294967295 2147483648) else (grommetref11_Int.j6 kj29 t180 bt191.1 bt191.2 18446744073709551615 9223372036854775808))) else (some (0, 2))) = some (r1, r2) := H
                            have A33 := Aside0.mk A330
                            clear A330
                            by_cases c34 : t188 = true
                            · subst c34
                              have H1 : ((grommetref11_value.f kj29 t187 x14_29).bind fun bt191 => (if a1 = 32 then (grommetref11_Int.j6 kj29 t180 bt191.1 bt191.2 4294967295 2147483648) else (grommetref11_Int.j6 kj29 t180 bt191.1 bt191.2 18446744073709551615 9223372036854775808))) = some (r1, r2) := by rw [if_pos rfl] at H; exact H
                              clear H
                              have H := H1
                              clear H1
                              replace H := Option.bind_eq_some_iff.mp H
                              obtain ⟨⟨t191, t192⟩, A350, H⟩ := H
                              replace H : (if a1 = 32 then (grommetref11_Int.j6 kj29 t180 t191 t192 4294967295 2147483648) else (grommetref11_Int.j6 kj29 t180 t191 t192 18446744073709551615 9223372036854775808)) = some (r1, r2) := H
                              have A35 := Aside0.mk A350
                              clear A350
                              have HC36 := Aside0.mk H
                              clear H
                              go_upto_if 91 with (first | ((with_reducible refine gate_callee (f := 21) rfl ?_); refine goesL_ (some 79) rfl rfl Try.func21 (by kernel_rfl) rfl #[.string x0_29, .int .i64 x14_29] rfl (by (try simp only [List.map_toArray, List.map_cons, List.map_nil]); first | done | rfl | (simp only [List.length_drop, List.length_take]; rfl)) ?_; (with_reducible refine (grommetref11_Digits.calls kj29 x0_29 x14_29 t187 true _ A33.out).mono ?_); rintro e w37 ⟨v189, rfl, ho0, hb⟩; refine ⟨_, rfl, ?_⟩; have n0_ := Aside0.mk (Kd.R_lower ho0 (below_size (by repeat (first | (with_reducible first | exact HB.out | apply below_alloc | apply pw_below_drewN | apply below_drew1) | exact HB.out)))); have n1_ := Aside0.mk (below_step (by repeat (first | (with_reducible first | exact HB.out | apply below_alloc | apply pw_below_drewN | apply below_drew1) | exact HB.out)) hb); clear HB; have HO190 := n0_; have HB := n1_; clear n0_ n1_; (try clear hb); (try clear hb2); (try clear hk); (try clear hi); (try clear ho0); obtain ⟨Ao38, co38, eo38⟩ := Kd.R_slice HO190.out; subst eo38) | ((with_reducible refine gate_callee (f := 22) rfl ?_); refine goesL_ (some 87) rfl rfl Try.func22 (by kernel_rfl) rfl #[.slice Ao38 t187.length co38, .int .i64 x14_29] rfl (by (try simp only [List.map_toArray, List.map_cons, List.map_nil]); first | done | rfl | (simp only [List.length_drop, List.length_take]; rfl)) ?_; (with_reducible refine (grommetref11_value.calls kj29 _ _ t187 x14_29 t191 t192 _ ?side1 ?side2 A35.out).mono ?_); (case side1 => repeat (first | exact (Kd.R_reads' HO190.out).2.2 | (with_reducible refine Kd.C_alloc ?_ _) | (with_reducible refine Kd.C_drewN ?_ _) | (with_reducible refine Kd.C_drew ?_))); (case side2 => exact (Kd.R_reads' HO190.out).2.1); rintro e w' ⟨rfl, ⟨nd, rfl⟩⟩; refine ⟨_, rfl, ?_⟩))
                              (try simp only [Act.put, List.setIfInBounds_toArray, List.set_cons_zero, List.set_cons_succ])
                              go_cut [19, 20] (fun v19 v20 wc => ∃ (kq : Nat) (x19_35 : Int) (x20_35 : Int), v19 = .int .u64 x19_35 ∧ v20 = .int .u64 x20_35 ∧ Aside0 (grommetref11_Int.j6 kq t180 t191 t192 x19_35 x20_35 = some (r1, r2)) ∧ Aside0 (kq ≤ kj29) ∧ Aside0 (Below w.heap.size w wc))
                              case first =>
                                have H := HC36.out
                                clear HC36
                                by_cases c39 : a1 = 32
                                · rw [if_pos c39] at H
                                  have c39b0 : (a1 == 32) = true := beq_iff_eq.mpr c39
                                  have c39b1 : (a1 != 32) = false := bne_eq_false_iff_eq.mpr c39
                                  clear c39
                                  (first | rw [c39b0] | (simp only [i64_w, i32_w]; rw [c39b0]) | skip)
                                  have H' := Aside0.mk H
                                  clear H
                                  go_wp2
                                  go_meet
                                  case rel => exact ⟨_, (4294967295), (2147483648), (by first | rfl | (simp; done) | (simp [*]; done)), (by first | rfl | (simp; done) | (simp [*]; done)), H', ⟨by have := HJ4.out; have := HJ6.out; have := HJ12.out; have := HJ14.out; have := HJ20.out; have := HJ29.out; first | omega | exact Nat.le_refl _⟩, ⟨by repeat (first | (with_reducible first | exact HB.out | apply below_alloc | apply pw_below_drewN | apply below_drew1) | exact HB.out)⟩⟩
                                · rw [if_neg c39] at H
                                  have c39b0 : (a1 == 32) = false := beq_eq_false_iff_ne.mpr c39
                                  have c39b1 : (a1 != 32) = true := bne_iff_ne.mpr c39
                                  (first | rw [c39b0] | (simp only [i64_w, i32_w]; rw [c39b0]) | skip)
                                  have H' := Aside0.mk H
                                  clear H
                                  go_wp2
                                  go_meet
                                  case rel => exact ⟨_, (18446744073709551615), (9223372036854775808), (by first | rfl | (simp; done) | (simp [*]; done)), (by first | rfl | (simp; done) | (simp [*]; done)), H', ⟨by have := HJ4.out; have := HJ6.out; have := HJ12.out; have := HJ14.out; have := HJ20.out; have := HJ29.out; first | omega | exact Nat.le_refl _⟩, ⟨by repeat (first | (with_reducible first | exact HB.out | apply below_alloc | apply pw_below_drewN | apply below_drew1) | exact HB.out)⟩⟩
                              case rest =>
                                clear HC36
                                try clear c1
                                try clear p1
                                try clear q1
                                try clear hx1
                                try clear qi1
                                try clear c2
                                try clear p2
                                try clear q2
                                try clear hx2
                                try clear qi2
                                try clear c3
                                try clear c6
                                try clear c8
                                try clear c9
                                try clear c9b0
                                try clear c9b1
                                try clear c10
                                try clear c14
                                try clear c16
                                try clear c16b0
                                try clear c16b1
                                try clear c17
                                try clear c17b0
                                try clear c17b1
                                try clear p18
                                try clear q18
                                try clear hx18
                                try clear qi18
                                try clear c19
                                try clear c19b0
                                try clear p20
                                try clear q20
                                try clear hx20
                                try clear qi20
                                try clear c21
                                try clear c22
                                try clear c23
                                try clear c25
                                try clear c26
                                try clear c28
                                try clear c29
                                try clear c31
                                try clear c32
                                try clear c32b0
                                try clear c32b1
                                try clear c34
                                try clear c39
                                try clear c39b0
                                try clear c39b1
                                try clear p1
                                try clear p18
                                try clear p2
                                try clear p20
                                try clear q1
                                try clear q18
                                try clear q2
                                try clear q20
                                obtain ⟨kq, x19_35, x20_35, rfl, rfl, HA, HJ35, HB⟩ := hcut
                                cases kq with
                                | zero => exact absurd HA.out (by simp [grommetref11_Int.j6])
                                | succ kj35 =>
                                  have H := HA.out
                                  clear HA
                                  simp only [grommetref11_Int.j6] at H
                                  have HC40 := Aside0.mk H
                                  clear H
                                  go_upto_region 28 with (fail)
                                  go_cut [106] (fun v106 wc => ∃ (kq : Nat) (x106_39 : Bool), v106 = .bool x106_39 ∧ Aside0 (grommetref11_Int.j7 kq t180 t191 x19_35 x106_39 = some (r1, r2)) ∧ Aside0 (kq ≤ kj35) ∧ Aside0 (Below w.heap.size w wc))
                                  case first =>
                                    have H := HC40.out
                                    clear HC40
                                    by_cases c41 : t192 = true
                                    · subst c41
                                      have H1 : (if t191 > x19_35 then (grommetref11_Int.j7 kj35 t180 t191 x19_35 true) else (if t180 = true then (grommetref11_Int.j7 kj35 t180 t191 x19_35 (decide (t191 > x20_35))) else (grommetref11_Int.j7 kj35 t180 t191 x19_35 false))) = some (r1, r2) := by rw [if_pos rfl] at H; exact H
                                      clear H
                                      have H := H1
                                      clear H1
                                      by_cases c42 : t191 > x19_35
                                      · rw [if_pos c42] at H
                                        have c42b0 : decide (x19_35 < t191) = true := decide_eq_true c42
                                        clear c42
                                        (first | rw [c42b0] | (simp only [i64_w, i32_w]; rw [c42b0]) | skip)
                                        have H' := Aside0.mk H
                                        clear H
                                        go_wp2
                                        go_meet
                                        case rel => exact ⟨_, (true), (by first | rfl | (simp; done) | (simp [*]; done)), H', ⟨by have := HJ4.out; have := HJ6.out; have := HJ12.out; have := HJ14.out; have := HJ20.out; have := HJ29.out; have := HJ35.out; first | omega | exact Nat.le_refl _⟩, ⟨by repeat (first | (with_reducible first | exact HB.out | apply below_alloc | apply pw_below_drewN | apply below_drew1) | exact HB.out)⟩⟩
                                      · rw [if_neg c42] at H
                                        have c42b0 : decide (x19_35 < t191) = false := decide_eq_false c42
                                        clear c42
                                        (first | rw [c42b0] | (simp only [i64_w, i32_w]; rw [c42b0]) | skip)
                                        by_cases c43 : t180 = true
                                        · subst c43
                                          have H1 : (grommetref11_Int.j7 kj35 true t191 x19_35 (decide (t191 > x20_35))) = some (r1, r2) := by rw [if_pos rfl] at H; exact H
                                          clear H
                                          have H := H1
                                          clear H1
                                          have H' := Aside0.mk H
                                          clear H
                                          go_wp2
                                          go_meet
                                          case rel => exact ⟨_, (decide (t191 > x20_35)), (by first | rfl | (simp; done) | (simp [*]; done)), H', ⟨by have := HJ4.out; have := HJ6.out; have := HJ12.out; have := HJ14.out; have := HJ20.out; have := HJ29.out; have := HJ35.out; first | omega | exact Nat.le_refl _⟩, ⟨by repeat (first | (with_reducible first | exact HB.out | apply below_alloc | apply pw_below_drewN | apply below_drew1) | exact HB.out)⟩⟩
                                        · replace c43 := Bool.eq_false_iff.mpr c43
                                          subst c43
                                          have H1 : (grommetref11_Int.j7 kj35 false t191 x19_35 false) = some (r1, r2) := by rw [if_neg (show ¬ (false = true) by decide)] at H; exact H
                                          clear H
                                          have H := H1
                                          clear H1
                                          have H' := Aside0.mk H
                                          clear H
                                          go_wp2
                                          go_meet
                                          case rel => exact ⟨_, (false), (by first | rfl | (simp; done) | (simp [*]; done)), H', ⟨by have := HJ4.out; have := HJ6.out; have := HJ12.out; have := HJ14.out; have := HJ20.out; have := HJ29.out; have := HJ35.out; first | omega | exact Nat.le_refl _⟩, ⟨by repeat (first | (with_reducible first | exact HB.out | apply below_alloc | apply pw_below_drewN | apply below_drew1) | exact HB.out)⟩⟩
                                    · replace c41 := Bool.eq_false_iff.mpr c41
                                      subst c41
                                      have H1 : (grommetref11_Int.j7 kj35 t180 t191 x19_35 true) = some (r1, r2) := by rw [if_neg (show ¬ (false = true) by decide)] at H; exact H
                                      clear H
                                      have H := H1
                                      clear H1
                                      have H' := Aside0.mk H
                                      clear H
                                      go_wp2
                                      go_meet
                                      case rel => exact ⟨_, (true), (by first | rfl | (simp; done) | (simp [*]; done)), H', ⟨by have := HJ4.out; have := HJ6.out; have := HJ12.out; have := HJ14.out; have := HJ20.out; have := HJ29.out; have := HJ35.out; first | omega | exact Nat.le_refl _⟩, ⟨by repeat (first | (with_reducible first | exact HB.out | apply below_alloc | apply pw_below_drewN | apply below_drew1) | exact HB.out)⟩⟩
                                  case rest =>
                                    clear HC40
                                    try clear c1
                                    try clear p1
                                    try clear q1
                                    try clear hx1
                                    try clear qi1
                                    try clear c2
                                    try clear p2
                                    try clear q2
                                    try clear hx2
                                    try clear qi2
                                    try clear c3
                                    try clear c4
                                    try clear c6
                                    try clear c8
                                    try clear c9
                                    try clear c9b0
                                    try clear c9b1
                                    try clear c10
                                    try clear c14
                                    try clear c16
                                    try clear c16b0
                                    try clear c16b1
                                    try clear c17
                                    try clear c17b0
                                    try clear c17b1
                                    try clear p18
                                    try clear q18
                                    try clear hx18
                                    try clear qi18
                                    try clear c19
                                    try clear c19b0
                                    try clear p20
                                    try clear q20
                                    try clear hx20
                                    try clear qi20
                                    try clear c21
                                    try clear c22
                                    try clear c23
                                    try clear c25
                                    try clear c26
                                    try clear c28
                                    try clear c29
                                    try clear c31
                                    try clear c32
                                    try clear c32b0
                                    try clear c32b1
                                    try clear c34
                                    try clear c39
                                    try clear c39b0
                                    try clear c39b1
                                    try clear c41
                                    try clear c42
                                    try clear c42b0
                                    try clear c43
                                    try clear p1
                                    try clear p18
                                    try clear p2
                                    try clear p20
                                    try clear q1
                                    try clear q18
                                    try clear q2
                                    try clear q20
                                    obtain ⟨kq, x106_39, rfl, HA, HJ39, HB⟩ := hcut
                                    cases kq with
                                    | zero => exact absurd HA.out (by simp [grommetref11_Int.j7])
                                    | succ kj39 =>
                                      have H := HA.out
                                      clear HA
                                      simp only [grommetref11_Int.j7] at H
                                      by_cases c44 : x106_39 = true
                                      · subst c44
                                        have H1 : (some (0, 7)) = some (r1, r2) := by rw [if_pos rfl] at H; exact H
                                        clear H
                                        have H := H1
                                        clear H1
                                        simp only [Option.some.injEq, Prod.mk.injEq] at H
                                        obtain ⟨rfl, rfl⟩ := H
                                        go_wp2
                                        go_ret2
                                        exact ⟨by first | rfl | (simp [errW_none, errW_some] <;> rfl) | (simp [*, errW_none, errW_some] <;> rfl), by repeat (first | (with_reducible first | exact HB.out | apply below_alloc | apply pw_below_drewN | apply below_drew1) | exact HB.out)⟩
                                      · replace c44 := Bool.eq_false_iff.mpr c44
                                        subst c44
                                        have H1 : (if t180 = true then (if t191 > 0 then (some (IntKind.u64.wrap ((IntKind.u64.wrap (x19_35 - t191)) + 1), 0)) else (some (t191, 0))) else (some (t191, 0))) = some (r1, r2) := by rw [if_neg (show ¬ (false = true) by decide)] at H; exact H
                                        clear H
                                        have H := H1
                                        clear H1
                                        by_cases c45 : t180 = true
                                        · subst c45
                                          have H1 : (if t191 > 0 then (some (IntKind.u64.wrap ((IntKind.u64.wrap (x19_35 - t191)) + 1), 0)) else (some (t191, 0))) = some (r1, r2) := by rw [if_pos rfl] at H; exact H
                                          clear H
                                          have H := H1
                                          clear H1
                                          by_cases c46 : t191 > 0
                                          · rw [if_pos c46] at H
                                            have c46b0 : decide (0 < t191) = true := decide_eq_true c46
                                            clear c46
                                            simp only [Option.some.injEq, Prod.mk.injEq] at H
                                            obtain ⟨rfl, rfl⟩ := H
                                            go_wp2
                                            go_ret2
                                            exact ⟨by first | rfl | (simp [errW_none, errW_some] <;> rfl) | (simp [*, errW_none, errW_some] <;> rfl), by repeat (first | (with_reducible first | exact HB.out | apply below_alloc | apply pw_below_drewN | apply below_drew1) | exact HB.out)⟩
                                          · rw [if_neg c46] at H
                                            have c46b0 : decide (0 < t191) = false := decide_eq_false c46
                                            clear c46
                                            simp only [Option.some.injEq, Prod.mk.injEq] at H
                                            obtain ⟨rfl, rfl⟩ := H
                                            go_wp2
                                            go_ret2
                                            exact ⟨by first | rfl | (simp [errW_none, errW_some] <;> rfl) | (simp [*, errW_none, errW_some] <;> rfl), by repeat (first | (with_reducible first | exact HB.out | apply below_alloc | apply pw_below_drewN | apply below_drew1) | exact HB.out)⟩
                                        · replace c45 := Bool.eq_false_iff.mpr c45
                                          subst c45
                                          have H1 : (some (t191, 0)) = some (r1, r2) := by rw [if_neg (show ¬ (false = true) by decide)] at H; exact H
                                          clear H
                                          have H := H1
                                          clear H1
                                          simp only [Option.some.injEq, Prod.mk.injEq] at H
                                          obtain ⟨rfl, rfl⟩ := H
                                          go_wp2
                                          go_ret2
                                          exact ⟨by first | rfl | (simp [errW_none, errW_some] <;> rfl) | (simp [*, errW_none, errW_some] <;> rfl), by repeat (first | (with_reducible first | exact HB.out | apply below_alloc | apply pw_below_drewN | apply below_drew1) | exact HB.out)⟩
                            · replace c34 := Bool.eq_false_iff.mpr c34
                              subst c34
                              have H1 : (some (0, 2)) = some (r1, r2) := by rw [if_neg (show ¬ (false = true) by decide)] at H; exact H
                              clear H
                              have H := H1
                              clear H1
                              simp only [Option.some.injEq, Prod.mk.injEq] at H
                              obtain ⟨rfl, rfl⟩ := H
                              go_wp2_with (first | ((with_reducible refine gate_callee (f := 21) rfl ?_); refine goesL_ (some 79) rfl rfl Try.func21 (by kernel_rfl) rfl #[.string x0_29, .int .i64 x14_29] rfl (by (try simp only [List.map_toArray, List.map_cons, List.map_nil]); first | done | rfl | (simp only [List.length_drop, List.length_take]; rfl)) ?_; (with_reducible refine (grommetref11_Digits.calls kj29 x0_29 x14_29 t187 false _ A33.out).mono ?_); rintro e w47 ⟨v189, rfl, ho0, hb⟩; refine ⟨_, rfl, ?_⟩; have n0_ := Aside0.mk (Kd.R_lower ho0 (below_size (by repeat (first | (with_reducible first | exact HB.out | apply below_alloc | apply pw_below_drewN | apply below_drew1) | exact HB.out)))); have n1_ := Aside0.mk (below_step (by repeat (first | (with_reducible first | exact HB.out | apply below_alloc | apply pw_below_drewN | apply below_drew1) | exact HB.out)) hb); clear HB; have HO190 := n0_; have HB := n1_; clear n0_ n1_; (try clear hb); (try clear hb2); (try clear hk); (try clear hi); (try clear ho0)))
                              go_ret2
                              exact ⟨by first | rfl | (simp [errW_none, errW_some] <;> rfl) | (simp [*, errW_none, errW_some] <;> rfl), by repeat (first | (with_reducible first | exact HB.out | apply below_alloc | apply pw_below_drewN | apply below_drew1) | exact HB.out)⟩

end Go.Proofs.Ytjenbegobpfclaa.RTextAll
