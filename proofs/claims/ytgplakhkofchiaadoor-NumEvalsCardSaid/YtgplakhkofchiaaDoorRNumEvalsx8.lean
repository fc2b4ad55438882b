-- Made by the program wip/patchprint.py (this session's own, over the kit's print)
import Derived.Test.YtgplakhkofchiaaDoorRNumEvalsx0
import Derived.Test.YtgplakhkofchiaaDoorRNumEvalsx5
import Derived.Test.YtgplakhkofchiaaDoorRNumEvalsx6
import Derived.Test.YtgplakhkofchiaaDoorRNumEvalsx7
namespace Go.Proofs.YtgplakhkofchiaaDoor.RNumEvals
open Go.RowKit Go.Proofs.YtgplakhkofchiaaDoor.Man Go.Proofs.YtgplakhkofchiaaDoorW.PrintWords Go.Proofs.YtgplakhkofchiaaDoorW.PrintLast Go.Proofs.YtgplakhkofchiaaDoorW.PrintMore

theorem shl_any (a s : Int) : IntKind.u64.wrap (a * 2 ^ s.toNat) = shl .u64 a s := by
  unfold shl
  have e : ∀ n : Int, IntKind.u64.wrap n = n % 18446744073709551616 := by
    intro n; simp only [IntKind.wrap, IntKind.bits, IntKind.signed]; simp
  rw [e, e, show IntKind.bits .u64 = 64 from rfl]
  by_cases h : s.toNat ≤ 64
  · rw [Nat.min_eq_left h]
  · rw [Nat.min_eq_right (by omega)]
    obtain ⟨d, hd⟩ : ∃ d, s.toNat = d + 64 := ⟨s.toNat - 64, by omega⟩
    rw [hd, Int.pow_add, ← Int.mul_assoc]
    rw [show (2 : Int) ^ 64 = 18446744073709551616 from by decide, Int.mul_emod_left, Int.mul_emod_left]

attribute [local go_sem] max2_int min2_int max_two min_two max_three min_three max_four min_four   -- for this text's walks alone
set_option linter.unusedVariables false
set_option linter.unusedSimpArgs false
set_option linter.unnecessarySimpa false

attribute [local go_sem] err_eql err_neq err_nil_eql err_nil_neq
attribute [local simp] shl_zero
/-! ### grommetref03_two: function 27 -/
mutual
def grommetref03_two.j0 : Nat → Int → Int → Int → Int → Bool → Option (Int × Int)
  | 0, _, _, _, _, _ => none
  | k + 1, x0, x1, x2, x3, x22 => if x22 = true then (if x0 = 3 then (grommetref03_two.j1 k x0 x1 x2 x3 true) else (grommetref03_two.j1 k x0 x1 x2 x3 (x0 == 5))) else (if x0 = 0 then ((grommetref03_low.f (IntKind.u64.wrap (x1 + x2)) x3).bind fun t182 => (some (t182, 0))) else (if x0 = 1 then ((grommetref03_opposite.f x2 x3).bind fun t183 => ((grommetref03_low.f (IntKind.u64.wrap (x1 + t183)) x3).bind fun t184 => (some (t184, 0)))) else (if x0 = 2 then ((grommetref03_low.f (IntKind.u64.wrap (x1 * x2)) x3).bind fun t185 => (some (t185, 0))) else (if x0 ≥ 10 then (if (IntKind.u64.wrap (x3)) = 0 then (none) else ((grommetref03_shift.f k (wrap64 (x0 - 10)) x1 (wrap64 (Int.tmod x2 (IntKind.u64.wrap (x3)))) x3).bind fun t186 => (some (t186, 0)))) else (grommetref03_two.l0 k x0 x1 x2 x3 0 0)))))
def grommetref03_two.j1 : Nat → Int → Int → Int → Int → Bool → Option (Int × Int)
  | 0, _, _, _, _, _ => none
  | k + 1, x0, x1, x2, x3, x10 => if x2 = 0 then (some (0, 2)) else (if x0 = 3 then (if 0 ≤ (wrap64 (x3 - 1)) then (if x1 = (shl .u64 1 (wrap64 (x3 - 1))) then ((grommetref03_opposite.f x2 x3).bind fun t179 => (grommetref03_two.j2 k x0 x1 x2 x3 x10 (t179 == 1))) else (grommetref03_two.j2 k x0 x1 x2 x3 x10 false)) else (none)) else (grommetref03_two.j2 k x0 x1 x2 x3 x10 false))
def grommetref03_two.j2 : Nat → Int → Int → Int → Int → Bool → Bool → Option (Int × Int)
  | 0, _, _, _, _, _, _ => none
  | k + 1, x0, x1, x2, x3, x10, x45 => if x45 = true then (some (0, 3)) else ((grommetref03_divide.f k x1 x2 x3 x10).bind fun bt180 => (if x0 < 5 then (some (bt180.1, 0)) else (some (bt180.2, 0))))
def grommetref03_two.l0 : Nat → Int → Int → Int → Int → Int → Int → Option (Int × Int)
  | 0, _, _, _, _, _, _ => none
  | k + 1, x0, x1, x2, x3, x13, x14 => if x14 < x3 then ((grommetref03_bit.f x1 x14).bind fun t187 => ((grommetref03_bit.f x2 x14).bind fun t188 => (if x0 = 7 then (if (IntKind.u64.wrap (t187 + t188)) = 2 then ((grommetref03_truth.f true).bind fun t189 => (if 0 ≤ x14 then (grommetref03_two.l0 k x0 x1 x2 x3 (Go.bits .or .u64 x13 (shl .u64 t189 x14)) (wrap64 (x14 + 1))) else (none))) else (if x0 = 8 then (if (IntKind.u64.wrap (t187 + t188)) > 0 then ((grommetref03_truth.f true).bind fun t190 => (if 0 ≤ x14 then (grommetref03_two.l0 k x0 x1 x2 x3 (Go.bits .or .u64 x13 (shl .u64 t190 x14)) (wrap64 (x14 + 1))) else (none))) else (if x0 = 9 then ((grommetref03_truth.f ((IntKind.u64.wrap (t187 + t188)) == 1)).bind fun t191 => (if 0 ≤ x14 then (grommetref03_two.l0 k x0 x1 x2 x3 (Go.bits .or .u64 x13 (shl .u64 t191 x14)) (wrap64 (x14 + 1))) else (none))) else ((grommetref03_truth.f false).bind fun t192 => (if 0 ≤ x14 then (grommetref03_two.l0 k x0 x1 x2 x3 (Go.bits .or .u64 x13 (shl .u64 t192 x14)) (wrap64 (x14 + 1))) else (none))))) else (if x0 = 9 then ((grommetref03_truth.f ((IntKind.u64.wrap (t187 + t188)) == 1)).bind fun t193 => (if 0 ≤ x14 then (grommetref03_two.l0 k x0 x1 x2 x3 (Go.bits .or .u64 x13 (shl .u64 t193 x14)) (wrap64 (x14 + 1))) else (none))) else ((grommetref03_truth.f false).bind fun t194 => (if 0 ≤ x14 then (grommetref03_two.l0 k x0 x1 x2 x3 (Go.bits .or .u64 x13 (shl .u64 t194 x14)) (wrap64 (x14 + 1))) else (none)))))) else (if x0 = 8 then (if (IntKind.u64.wrap (t187 + t188)) > 0 then ((grommetref03_truth.f true).bind fun t195 => (if 0 ≤ x14 then (grommetref03_two.l0 k x0 x1 x2 x3 (Go.bits .or .u64 x13 (shl .u64 t195 x14)) (wrap64 (x14 + 1))) else (none))) else (if x0 = 9 then ((grommetref03_truth.f ((IntKind.u64.wrap (t187 + t188)) == 1)).bind fun t196 => (if 0 ≤ x14 then (grommetref03_two.l0 k x0 x1 x2 x3 (Go.bits .or .u64 x13 (shl .u64 t196 x14)) (wrap64 (x14 + 1))) else (none))) else ((grommetref03_truth.f false).bind fun t197 => (if 0 ≤ x14 then (grommetref03_two.l0 k x0 x1 x2 x3 (Go.bits .or .u64 x13 (shl .u64 t197 x14)) (wrap64 (x14 + 1))) else (none))))) else (if x0 = 9 then ((grommetref03_truth.f ((IntKind.u64.wrap (t187 + t188)) == 1)).bind fun t198 => (if 0 ≤ x14 then (grommetref03_two.l0 k x0 x1 x2 x3 (Go.bits .or .u64 x13 (shl .u64 t198 x14)) (wrap64 (x14 + 1))) else (none))) else ((grommetref03_truth.f false).bind fun t199 => (if 0 ≤ x14 then (grommetref03_two.l0 k x0 x1 x2 x3 (Go.bits .or .u64 x13 (shl .u64 t199 x14)) (wrap64 (x14 + 1))) else (none)))))))) else (some (x13, 0))
end
def grommetref03_two.f (k : Nat) (a0 : Int) (a1 : Int) (a2 : Int) (a3 : Int) : Option (Int × Int) := if a0 ≥ 3 then (grommetref03_two.j0 k a0 a1 a2 a3 (decide (a0 ≤ 6))) else (grommetref03_two.j0 k a0 a1 a2 a3 false)
theorem grommetref03_two.mono_l : ∀ k, (∀ y0 y1 y2 y3 y4, LeO (grommetref03_two.j0 k y0 y1 y2 y3 y4) (grommetref03_two.j0 (k + 1) y0 y1 y2 y3 y4)) ∧ (∀ y0 y1 y2 y3 y4, LeO (grommetref03_two.j1 k y0 y1 y2 y3 y4) (grommetref03_two.j1 (k + 1) y0 y1 y2 y3 y4)) ∧ (∀ y0 y1 y2 y3 y4 y5, LeO (grommetref03_two.j2 k y0 y1 y2 y3 y4 y5) (grommetref03_two.j2 (k + 1) y0 y1 y2 y3 y4 y5)) ∧ (∀ y0 y1 y2 y3 y4 y5, LeO (grommetref03_two.l0 k y0 y1 y2 y3 y4 y5) (grommetref03_two.l0 (k + 1) y0 y1 y2 y3 y4 y5))
  | 0 => ⟨fun _ _ _ _ _ r h => by simp [grommetref03_two.j0] at h, fun _ _ _ _ _ r h => by simp [grommetref03_two.j1] at h, fun _ _ _ _ _ _ r h => by simp [grommetref03_two.j2] at h, fun _ _ _ _ _ _ r h => by simp [grommetref03_two.l0] at h⟩
  | k + 1 => by
    obtain ⟨ih0, ih1, ih2, ih3⟩ := grommetref03_two.mono_l k
    refine ⟨?_, ?_, ?_, ?_⟩
    · intro y0 y1 y2 y3 y4
      unfold grommetref03_two.j0
      repeat' first
      | (with_reducible exact ih0 _ _ _ _ _)
      | (with_reducible exact ih1 _ _ _ _ _)
      | (with_reducible exact ih2 _ _ _ _ _ _)
      | (with_reducible exact ih3 _ _ _ _ _ _)
      | (with_reducible exact grommetref03_divide.mono _ _ _ _ _)
      | (with_reducible exact grommetref03_shift.mono _ _ _ _ _)
      | (with_reducible exact LeO.refl _)
      | (with_reducible exact LeO.none _)
      | (with_reducible refine LeO.ite ?_ ?_)
      | (with_reducible refine LeO.bind ?_ (fun _ => ?_))
      | exact ih0 _ _ _ _ _
      | exact ih1 _ _ _ _ _
      | exact ih2 _ _ _ _ _ _
      | exact ih3 _ _ _ _ _ _
      | exact grommetref03_divide.mono _ _ _ _ _
      | exact grommetref03_shift.mono _ _ _ _ _
      | exact LeO.none _
      | refine LeO.ite ?_ ?_
      | refine LeO.bind ?_ (fun _ => ?_)
    · intro y0 y1 y2 y3 y4
      unfold grommetref03_two.j1
      repeat' first
      | (with_reducible exact ih0 _ _ _ _ _)
      | (with_reducible exact ih1 _ _ _ _ _)
      | (with_reducible exact ih2 _ _ _ _ _ _)
      | (with_reducible exact ih3 _ _ _ _ _ _)
      | (with_reducible exact grommetref03_divide.mono _ _ _ _ _)
      | (with_reducible exact grommetref03_shift.mono _ _ _ _ _)
      | (with_reducible exact LeO.refl _)
      | (with_reducible exact LeO.none _)
      | (with_reducible refine LeO.ite ?_ ?_)
      | (with_reducible refine LeO.bind ?_ (fun _ => ?_))
      | exact ih0 _ _ _ _ _
      | exact ih1 _ _ _ _ _
      | exact ih2 _ _ _ _ _ _
      | exact ih3 _ _ _ _ _ _
      | exact grommetref03_divide.mono _ _ _ _ _
      | exact grommetref03_shift.mono _ _ _ _ _
      | exact LeO.none _
      | refine LeO.ite ?_ ?_
      | refine LeO.bind ?_ (fun _ => ?_)
    · intro y0 y1 y2 y3 y4 y5
      unfold grommetref03_two.j2
      repeat' first
      | (with_reducible exact ih0 _ _ _ _ _)
      | (with_reducible exact ih1 _ _ _ _ _)
      | (with_reducible exact ih2 _ _ _ _ _ _)
      | (with_reducible exact ih3 _ _ _ _ _ _)
      | (with_reducible exact grommetref03_divide.mono _ _ _ _ _)
      | (with_reducible exact grommetref03_shift.mono _ _ _ _ _)
      | (with_reducible exact LeO.refl _)
      | (with_reducible exact LeO.none _)
      | (with_reducible refine LeO.ite ?_ ?_)
      | (with_reducible refine LeO.bind ?_ (fun _ => ?_))
      | exact ih0 _ _ _ _ _
      | exact ih1 _ _ _ _ _
      | exact ih2 _ _ _ _ _ _
      | exact ih3 _ _ _ _ _ _
      | exact grommetref03_divide.mono _ _ _ _ _
      | exact grommetref03_shift.mono _ _ _ _ _
      | exact LeO.none _
      | refine LeO.ite ?_ ?_
      | refine LeO.bind ?_ (fun _ => ?_)
    · intro y0 y1 y2 y3 y4 y5
      unfold grommetref03_two.l0
      repeat' first
      | (with_reducible exact ih0 _ _ _ _ _)
      | (with_reducible exact ih1 _ _ _ _ _)
      | (with_reducible exact ih2 _ _ _ _ _ _)
      | (with_reducible exact ih3 _ _ _ _ _ _)
      | (with_reducible exact grommetref03_divide.mono _ _ _ _ _)
      | (with_reducible exact grommetref03_shift.mono _ _ _ _ _)
      | (with_reducible exact LeO.refl _)
      | (with_reducible exact LeO.none _)
      | (with_reducible refine LeO.ite ?_ ?_)
      | (with_reducible refine LeO.bind ?_ (fun _ => ?_))
      | exact ih0 _ _ _ _ _
      | exact ih1 _ _ _ _ _
      | exact ih2 _ _ _ _ _ _
      | exact ih3 _ _ _ _ _ _
      | exact grommetref03_divide.mono _ _ _ _ _
      | exact grommetref03_shift.mono _ _ _ _ _
      | exact LeO.none _
      | refine LeO.ite ?_ ?_
      | refine LeO.bind ?_ (fun _ => ?_)
theorem grommetref03_two.mono : ∀ a0 a1 a2 a3 k, LeO (grommetref03_two.f k a0 a1 a2 a3) (grommetref03_two.f (k + 1) a0 a1 a2 a3) := by
  intro a0 a1 a2 a3 k
  obtain ⟨ih0, ih1, ih2, ih3⟩ := grommetref03_two.mono_l k
  unfold grommetref03_two.f
  repeat' first
      | (with_reducible exact ih0 _ _ _ _ _)
      | (with_reducible exact ih1 _ _ _ _ _)
      | (with_reducible exact ih2 _ _ _ _ _ _)
      | (with_reducible exact ih3 _ _ _ _ _ _)
      | (with_reducible exact grommetref03_divide.mono _ _ _ _ _)
      | (with_reducible exact grommetref03_shift.mono _ _ _ _ _)
      | (with_reducible exact LeO.refl _)
      | (with_reducible exact LeO.none _)
      | (with_reducible refine LeO.ite ?_ ?_)
      | (with_reducible refine LeO.bind ?_ (fun _ => ?_))
      | exact ih0 _ _ _ _ _
      | exact ih1 _ _ _ _ _
      | exact ih2 _ _ _ _ _ _
      | exact ih3 _ _ _ _ _ _
      | exact grommetref03_divide.mono _ _ _ _ _
      | exact grommetref03_shift.mono _ _ _ _ _
      | exact LeO.none _
      | refine LeO.ite ?_ ?_
      | refine LeO.bind ?_ (fun _ => ?_)
set_option maxHeartbeats 8000000 in
set_option maxRecDepth 100000 in
theorem grommetref03_two.calls (k : Nat) (a0 : Int) (a1 : Int) (a2 : Int) (a3 : Int) (r1 : Int) (r2 : Int) (w : World) (h : grommetref03_two.f k a0 a1 a2 a3 = some (r1, r2)) :
    Calls Tryd.prog 27 #[.int .i64 a0, .int .u64 a1, .int .u64 a2, .int .i64 a3] w fun e w' => e = .returned (.tuple #[.int .u64 r1, .int .i64 r2]) ∧ Drawn0 w w' := by
  have H : (if a0 ≥ 3 then (grommetref03_two.j0 k a0 a1 a2 a3 (decide (a0 ≤ 6))) else (grommetref03_two.j0 k a0 a1 a2 a3 false)) = some (r1, r2) := h
  clear h
  have HC5 := Aside0.mk H
  clear H
  go_enter Tryd.func27, Tryd.ntmps27
  go_upto_region 1 with (fail)
  go_cut [22] (fun v22 wc => ∃ (kq : Nat) (x22_4 : Bool), v22 = .bool x22_4 ∧ Aside0 (grommetref03_two.j0 kq a0 a1 a2 a3 x22_4 = some (r1, r2)) ∧ Aside0 (kq ≤ k) ∧ Drawn0 w wc)
  case first =>
    have H := HC5.out
    clear HC5
    by_cases c6 : a0 ≥ 3
    · rw [if_pos c6] at H
      have c6b0 : decide (3 ≤ a0) = true := decide_eq_true c6
      clear c6
      (first | rw [c6b0] | (simp only [i64_w, i32_w]; rw [c6b0]) | skip)
      have H' := Aside0.mk H
      clear H
      go_wp2
      go_meet
      case rel => exact ⟨_, (decide (a0 ≤ 6)), (by first | rfl | (simp; done) | (simp [*]; done)), H', ⟨by first | omega | exact Nat.le_refl _⟩, by repeat (first | exact Drawn0.refl _ | apply Drawn0.step)⟩
    · rw [if_neg c6] at H
      have c6b0 : decide (3 ≤ a0) = false := decide_eq_false c6
      clear c6
      (first | rw [c6b0] | (simp only [i64_w, i32_w]; rw [c6b0]) | skip)
      have H' := Aside0.mk H
      clear H
      go_wp2
      go_meet
      case rel => exact ⟨_, (false), (by first | rfl | (simp; done) | (simp [*]; done)), H', ⟨by first | omega | exact Nat.le_refl _⟩, by repeat (first | exact Drawn0.refl _ | apply Drawn0.step)⟩
  case rest =>
    clear HC5
    try clear c2
    try clear p2
    try clear c6
    try clear c6b0
    obtain ⟨kq, x22_4, rfl, HA, HJ4, ⟨mc4, rfl⟩⟩ := hcut
    cases kq with
    | zero => exact absurd HA.out (by simp [grommetref03_two.j0])
    | succ kj4 =>
      have H := HA.out
      clear HA
      simp only [grommetref03_two.j0] at H
      by_cases c7 : x22_4 = true
      · subst c7
        have H1 : (if a0 = 3 then (grommetref03_two.j1 kj4 a0 a1 a2 a3 true) else (grommetref03_two.j1 kj4 a0 a1 a2 a3 (a0 == 5))) = some (r1, r2) := by rw [if_pos rfl] at H; exact H
        clear H
        have H := H1
        clear H1
        have HC8 := Aside0.mk H
        clear H
        go_upto_region 2 with (fail)
        go_cut [10] (fun v10 wc => ∃ (kq : Nat) (x10_7 : Bool), v10 = .bool x10_7 ∧ Aside0 (grommetref03_two.j1 kq a0 a1 a2 a3 x10_7 = some (r1, r2)) ∧ Aside0 (kq ≤ kj4) ∧ Drawn0 w wc)
        case first =>
          have H := HC8.out
          clear HC8
          by_cases c9 : a0 = 3
          · rw [if_pos c9] at H
            have c9b0 : (a0 == 3) = true := beq_iff_eq.mpr c9
            have c9b1 : (a0 != 3) = false := bne_eq_false_iff_eq.mpr c9
            clear c9
            (first | rw [c9b0] | (simp only [i64_w, i32_w]; rw [c9b0]) | skip)
            have H' := Aside0.mk H
            clear H
            go_wp2
            go_meet
            case rel => exact ⟨_, (true), (by first | rfl | (simp; done) | (simp [*]; done)), H', ⟨by have := HJ4.out; first | omega | exact Nat.le_refl _⟩, by repeat (first | exact Drawn0.refl _ | apply Drawn0.step)⟩
          · rw [if_neg c9] at H
            have c9b0 : (a0 == 3) = false := beq_eq_false_iff_ne.mpr c9
            have c9b1 : (a0 != 3) = true := bne_iff_ne.mpr c9
            (first | rw [c9b0] | (simp only [i64_w, i32_w]; rw [c9b0]) | skip)
            have H' := Aside0.mk H
            clear H
            go_wp2
            go_meet
            case rel => exact ⟨_, ((a0 == 5)), (by first | rfl | (simp; done) | (simp [*]; done)), H', ⟨by have := HJ4.out; first | omega | exact Nat.le_refl _⟩, by repeat (first | exact Drawn0.refl _ | apply Drawn0.step)⟩
        case rest =>
          clear HC8
          try clear c2
          try clear p2
          try clear c4
          try clear c6
          try clear c6b0
          try clear c7
          try clear c9
          try clear c9b0
          try clear c9b1
          try clear p2
          obtain ⟨kq, x10_7, rfl, HA, HJ7, ⟨mc7, rfl⟩⟩ := hcut
          cases kq with
          | zero => exact absurd HA.out (by simp [grommetref03_two.j1])
          | succ kj7 =>
            have H := HA.out
            clear HA
            simp only [grommetref03_two.j1] at H
            by_cases c10 : a2 = 0
            · rw [if_pos c10] at H
              have c10b0 : (a2 == 0) = true := beq_iff_eq.mpr c10
              have c10b1 : (a2 != 0) = false := bne_eq_false_iff_eq.mpr c10
              clear c10
              simp only [Option.some.injEq, Prod.mk.injEq] at H
              obtain ⟨rfl, rfl⟩ := H
              go_wp2
              go_ret2
              exact ⟨by first | rfl | (simp; done) | (simp [*]; done), by repeat (first | exact Drawn0.refl _ | apply Drawn0.step)⟩
            · rw [if_neg c10] at H
              have c10b0 : (a2 == 0) = false := beq_eq_false_iff_ne.mpr c10
              have c10b1 : (a2 != 0) = true := bne_iff_ne.mpr c10
              have HC11 := Aside0.mk H
              clear H
              go_upto_region 5 with (fail)
              go_cut [45] (fun v45 wc => ∃ (kq : Nat) (x45_10 : Bool), v45 = .bool x45_10 ∧ Aside0 (grommetref03_two.j2 kq a0 a1 a2 a3 x10_7 x45_10 = some (r1, r2)) ∧ Aside0 (kq ≤ kj7) ∧ Drawn0 w wc)
              case first =>
                have H := HC11.out
                clear HC11
                by_cases c12 : a0 = 3
                · rw [if_pos c12] at H
                  have c12b0 : (a0 == 3) = true := beq_iff_eq.mpr c12
                  have c12b1 : (a0 != 3) = false := bne_eq_false_iff_eq.mpr c12
                  clear c12
                  (first | rw [c12b0] | (simp only [i64_w, i32_w]; rw [c12b0]) | skip)
                  obtain ⟨ji13, hji13⟩ : ∃ j_ : Int, (wrap64 (a3 - 1)) = j_ := ⟨_, rfl⟩
                  replace H : (if 0 ≤ (ji13) then (if a1 = (shl .u64 1 (ji13)) then ((grommetref03_opposite.f a2 a3).bind fun t179 => (grommetref03_two.j2 kj7 a0 a1 a2 a3 x10_7 (t179 == 1))) else (grommetref03_two.j2 kj7 a0 a1 a2 a3 x10_7 false)) else (none)) = some (r1, r2) := by first | (rw [hji13] at H; exact H) | (simp only [hji13] at H ⊢; exact H)
                  have hji13w : (IntKind.i64.wrap (a3 - 1)) = ji13 := (i64_w _).trans hji13
                  by_cases c14 : 0 ≤ (ji13)
                  · rw [if_pos c14] at H
                    have c14b0 := eq_true c14
                    have c14b1 : decide (0 ≤ (ji13)) = true := decide_eq_true c14
                    clear c14
                    obtain ⟨ji15, hji15⟩ : ∃ j_ : Int, (shl .u64 1 (ji13)) = j_ := ⟨_, rfl⟩
                    replace H : (if a1 = (ji15) then ((grommetref03_opposite.f a2 a3).bind fun t179 => (grommetref03_two.j2 kj7 a0 a1 a2 a3 x10_7 (t179 == 1))) else (grommetref03_two.j2 kj7 a0 a1 a2 a3 x10_7 false)) = some (r1, r2) := by first | (rw [hji15] at H; exact H) | (simp only [hji15] at H ⊢; exact H)
                    have hji15_ : (IntKind.u64.wrap (1 * 2 ^ min (ji13).toNat 64)) = ji15 := hji15
                    have hji15z : (ji13) ≤ 64 → (IntKind.u64.wrap (1 * 2 ^ (ji13).toNat)) = ji15 := shl_small hji15
                    have hji15u : (IntKind.u64.wrap (2 ^ min (ji13).toNat 64)) = ji15 := by have h_ := hji15_; rw [Int.one_mul] at h_; exact h_
                    have hji15v : (ji13) ≤ 64 → (IntKind.u64.wrap (2 ^ (ji13).toNat)) = ji15 := fun hle_ => by have h_ := hji15z hle_; rw [Int.one_mul] at h_; exact h_
                    by_cases c16 : a1 = (ji15)
                    · rw [if_pos c16] at H
                      have c16b0 : (a1 == (ji15)) = true := beq_iff_eq.mpr c16
                      have c16b1 : (a1 != (ji15)) = false := bne_eq_false_iff_eq.mpr c16
                      clear c16
                      replace H := Option.bind_eq_some_iff.mp H
                      obtain ⟨t179, A170, H⟩ := H
                      replace H : (grommetref03_two.j2 kj7 a0 a1 a2 a3 x10_7 (t179 == 1)) = some (r1, r2) := H
                      have A17 := Aside0.mk A170
                      clear A170
                      have H' := Aside0.mk H
                      clear H
                      go_wp2_with (first | (go_at_call 35; (with_reducible refine (grommetref03_opposite.calls a2 a3 t179 _ A17.out).mono ?_); rintro e w' ⟨rfl, ⟨nd, rfl⟩⟩))
                      go_meet
                      case rel => exact ⟨_, ((t179 == 1)), (by first | rfl | (simp; done) | (simp [*]; done)), H', ⟨by have := HJ4.out; have := HJ7.out; first | omega | exact Nat.le_refl _⟩, by repeat (first | exact Drawn0.refl _ | apply Drawn0.step)⟩
                    · rw [if_neg c16] at H
                      have c16b0 : (a1 == (ji15)) = false := beq_eq_false_iff_ne.mpr c16
                      have c16b1 : (a1 != (ji15)) = true := bne_iff_ne.mpr c16
                      have H' := Aside0.mk H
                      clear H
                      go_wp2
                      go_meet
                      case rel => exact ⟨_, (false), (by first | rfl | (simp; done) | (simp [*]; done)), H', ⟨by have := HJ4.out; have := HJ7.out; first | omega | exact Nat.le_refl _⟩, by repeat (first | exact Drawn0.refl _ | apply Drawn0.step)⟩
                  · rw [if_neg c14] at H
                    exact absurd H (by simp)
                · rw [if_neg c12] at H
                  have c12b0 : (a0 == 3) = false := beq_eq_false_iff_ne.mpr c12
                  have c12b1 : (a0 != 3) = true := bne_iff_ne.mpr c12
                  (first | rw [c12b0] | (simp only [i64_w, i32_w]; rw [c12b0]) | skip)
                  have H' := Aside0.mk H
                  clear H
                  go_wp2
                  go_meet
                  case rel => exact ⟨_, (false), (by first | rfl | (simp; done) | (simp [*]; done)), H', ⟨by have := HJ4.out; have := HJ7.out; first | omega | exact Nat.le_refl _⟩, by repeat (first | exact Drawn0.refl _ | apply Drawn0.step)⟩
              case rest =>
                clear HC11
                try clear c1
                try clear c2
                try clear p2
                try clear c4
                try clear c6
                try clear c6b0
                try clear p6
                try clear c7
                try clear c9
                try clear c9b0
                try clear c9b1
                try clear c10
                try clear c10b0
                try clear c10b1
                try clear c12
                try clear c12b0
                try clear c12b1
                try clear c14
                try clear c14b0
                try clear c14b1
                try clear c16
                try clear c16b0
                try clear c16b1
                try clear p2
                obtain ⟨kq, x45_10, rfl, HA, HJ10, ⟨mc10, rfl⟩⟩ := hcut
                cases kq with
                | zero => exact absurd HA.out (by simp [grommetref03_two.j2])
                | succ kj10 =>
                  have H := HA.out
                  clear HA
                  simp only [grommetref03_two.j2] at H
                  by_cases c18 : x45_10 = true
                  · subst c18
                    have H1 : (some (0, 3)) = some (r1, r2) := by rw [if_pos rfl] at H; exact H
                    clear H
                    have H := H1
                    clear H1
                    simp only [Option.some.injEq, Prod.mk.injEq] at H
                    obtain ⟨rfl, rfl⟩ := H
                    go_wp2
                    go_ret2
                    exact ⟨by first | rfl | (simp; done) | (simp [*]; done), by repeat (first | exact Drawn0.refl _ | apply Drawn0.step)⟩
                  · replace c18 := Bool.eq_false_iff.mpr c18
                    subst c18
                    have H1 : ((grommetref03_divide.f kj10 a1 a2 a3 x10_7).bind fun bt180 => (if a0 < 5 then (some (bt180.1, 0)) else (some (bt180.2, 0)))) = some (r1, r2) := by rw [if_neg (show ¬ (false = true) by decide)] at H; exact H
                    clear H
                    have H := H1
                    clear H1
                    replace H := Option.bind_eq_some_iff.mp H
                    obtain ⟨⟨t180, t181⟩, A190, H⟩ := H
                    replace H : (if a0 < 5 then (some (t180, 0)) else (some (t181, 0))) = some (r1, r2) := H
                    have A19 := Aside0.mk A190
                    clear A190
                    by_cases c20 : a0 < 5
                    · rw [if_pos c20] at H
                      have c20b0 : decide (a0 < 5) = true := decide_eq_true c20
                      clear c20
                      simp only [Option.some.injEq, Prod.mk.injEq] at H
                      obtain ⟨rfl, rfl⟩ := H
                      go_wp2_with (first | ((with_reducible refine gate_callee (f := 36) rfl ?_); refine goesL_ (some 51) rfl rfl Tryd.func36 (by kernel_rfl) rfl #[.int .u64 a1, .int .u64 a2, .int .i64 a3, .bool x10_7] rfl (by (try simp only [List.map_toArray, List.map_cons, List.map_nil]); first | done | rfl | (simp only [List.length_drop, List.length_take]; rfl)) ?_; (with_reducible refine (grommetref03_divide.calls kj10 a1 a2 a3 x10_7 t180 t181 _ A19.out).mono ?_); rintro e w' ⟨rfl, ⟨nd, rfl⟩⟩; refine ⟨_, rfl, ?_⟩))
                      go_ret2
                      exact ⟨by first | rfl | (simp; done) | (simp [*]; done), by repeat (first | exact Drawn0.refl _ | apply Drawn0.step)⟩
                    · rw [if_neg c20] at H
                      have c20b0 : decide (a0 < 5) = false := decide_eq_false c20
                      clear c20
                      simp only [Option.some.injEq, Prod.mk.injEq] at H
                      obtain ⟨rfl, rfl⟩ := H
                      go_wp2_with (first | ((with_reducible refine gate_callee (f := 36) rfl ?_); refine goesL_ (some 51) rfl rfl Tryd.func36 (by kernel_rfl) rfl #[.int .u64 a1, .int .u64 a2, .int .i64 a3, .bool x10_7] rfl (by (try simp only [List.map_toArray, List.map_cons, List.map_nil]); first | done | rfl | (simp only [List.length_drop, List.length_take]; rfl)) ?_; (with_reducible refine (grommetref03_divide.calls kj10 a1 a2 a3 x10_7 t180 t181 _ A19.out).mono ?_); rintro e w' ⟨rfl, ⟨nd, rfl⟩⟩; refine ⟨_, rfl, ?_⟩))
                      go_ret2
                      exact ⟨by first | rfl | (simp; done) | (simp [*]; done), by repeat (first | exact Drawn0.refl _ | apply Drawn0.step)⟩
      · replace c7 := Bool.eq_false_iff.mpr c7
        subst c7
        have H1 : (if a0 = 0 then ((grommetref03_low.f (IntKind.u64.wrap (a1 + a2)) a3).bind fun t182 => (some (t182, 0))) else (if a0 = 1 then ((grommetref03_opposite.f a2 a3).bind fun t183 => ((grommetref03_low.f (IntKind.u64.wrap (a1 + t183)) a3).bind fun t184 => (some (t184, 0)))) else (if a0 = 2 then ((grommetref03_low.f (IntKind.u64.wrap (a1 * a2)) a3).bind fun t185 => (some (t185, 0))) else (if a0 ≥ 10 then (if (IntKind.u64.wrap (a3)) = 0 then (none) else ((grommetref03_shift.f kj4 (wrap64 (a0 - 10)) a1 (wrap64 (Int.tmod a2 (IntKind.u64.wrap (a3)))) a3).bind fun t186 => (some (t186, 0)))) else (grommetref03_two.l0 kj4 a0 a1 a2 a3 0 0))))) = some (r1, r2) := by rw [if_neg (show ¬ (false = true) by decide)] at H; exact H
        clear H
        have H := H1
        clear H1
        by_cases c21 : a0 = 0
        · rw [if_pos c21] at H
          have c21b0 : (a0 == 0) = true := beq_iff_eq.mpr c21
          have c21b1 : (a0 != 0) = false := bne_eq_false_iff_eq.mpr c21
          clear c21
          replace H := Option.bind_eq_some_iff.mp H
          obtain ⟨t182, A220, H⟩ := H
          replace H : (some (t182, 0)) = some (r1, r2) := H
          have A22 := Aside0.mk A220
          clear A220
          simp only [Option.some.injEq, Prod.mk.injEq] at H
          obtain ⟨rfl, rfl⟩ := H
          go_wp2_with (first | ((with_reducible refine gate_callee (f := 37) rfl ?_); refine goesL_ (some 65) rfl rfl Tryd.func37 (by kernel_rfl) rfl #[.int .u64 (IntKind.u64.wrap (a1 + a2)), .int .i64 a3] rfl (by (try simp only [List.map_toArray, List.map_cons, List.map_nil]); first | done | rfl | (simp only [List.length_drop, List.length_take]; rfl)) ?_; (with_reducible refine (grommetref03_low.calls (IntKind.u64.wrap (a1 + a2)) a3 t182 _ A22.out).mono ?_); rintro e w' ⟨rfl, ⟨nd, rfl⟩⟩; refine ⟨_, rfl, ?_⟩))
          go_ret2
          exact ⟨by first | rfl | (simp; done) | (simp [*]; done), by repeat (first | exact Drawn0.refl _ | apply Drawn0.step)⟩
        · rw [if_neg c21] at H
          have c21b0 : (a0 == 0) = false := beq_eq_false_iff_ne.mpr c21
          have c21b1 : (a0 != 0) = true := bne_iff_ne.mpr c21
          by_cases c23 : a0 = 1
          · rw [if_pos c23] at H
            have c23b0 : (a0 == 1) = true := beq_iff_eq.mpr c23
            have c23b1 : (a0 != 1) = false := bne_eq_false_iff_eq.mpr c23
            clear c23
            replace H := Option.bind_eq_some_iff.mp H
            obtain ⟨t183, A240, H⟩ := H
            replace H : ((grommetref03_low.f (IntKind.u64.wrap (a1 + t183)) a3).bind fun t184 => (some (t184, 0))) = some (r1, r2) := H
            have A24 := Aside0.mk A240
            clear A240
            replace H := Option.bind_eq_some_iff.mp H
            obtain ⟨t184, A250, H⟩ := H
            replace H : (some (t184, 0)) = some (r1, r2) := H
            have A25 := Aside0.mk A250
            clear A250
            simp only [Option.some.injEq, Prod.mk.injEq] at H
            obtain ⟨rfl, rfl⟩ := H
            go_wp2_with (first | ((with_reducible refine gate_callee (f := 35) rfl ?_); refine goesL_ (some 71) rfl rfl Tryd.func35 (by kernel_rfl) rfl #[.int .u64 a2, .int .i64 a3] rfl (by (try simp only [List.map_toArray, List.map_cons, List.map_nil]); first | done | rfl | (simp only [List.length_drop, List.length_take]; rfl)) ?_; (with_reducible refine (grommetref03_opposite.calls a2 a3 t183 _ A24.out).mono ?_); rintro e w' ⟨rfl, ⟨nd, rfl⟩⟩; refine ⟨_, rfl, ?_⟩) | ((with_reducible refine gate_callee (f := 37) rfl ?_); refine goesL_ (some 74) rfl rfl Tryd.func37 (by kernel_rfl) rfl #[.int .u64 (IntKind.u64.wrap (a1 + t183)), .int .i64 a3] rfl (by (try simp only [List.map_toArray, List.map_cons, List.map_nil]); first | done | rfl | (simp only [List.length_drop, List.length_take]; rfl)) ?_; (with_reducible refine (grommetref03_low.calls (IntKind.u64.wrap (a1 + t183)) a3 t184 _ A25.out).mono ?_); rintro e w' ⟨rfl, ⟨nd, rfl⟩⟩; refine ⟨_, rfl, ?_⟩))
            go_ret2
            exact ⟨by first | rfl | (simp; done) | (simp [*]; done), by repeat (first | exact Drawn0.refl _ | apply Drawn0.step)⟩
          · rw [if_neg c23] at H
            have c23b0 : (a0 == 1) = false := beq_eq_false_iff_ne.mpr c23
            have c23b1 : (a0 != 1) = true := bne_iff_ne.mpr c23
            by_cases c26 : a0 = 2
            · rw [if_pos c26] at H
              have c26b0 : (a0 == 2) = true := beq_iff_eq.mpr c26
              have c26b1 : (a0 != 2) = false := bne_eq_false_iff_eq.mpr c26
              clear c26
              replace H := Option.bind_eq_some_iff.mp H
              obtain ⟨t185, A270, H⟩ := H
              replace H : (some (t185, 0)) = some (r1, r2) := H
              have A27 := Aside0.mk A270
              clear A270
              simp only [Option.some.injEq, Prod.mk.injEq] at H
              obtain ⟨rfl, rfl⟩ := H
              go_wp2_with (first | ((with_reducible refine gate_callee (f := 37) rfl ?_); refine goesL_ (some 81) rfl rfl Tryd.func37 (by kernel_rfl) rfl #[.int .u64 (IntKind.u64.wrap (a1 * a2)), .int .i64 a3] rfl (by (try simp only [List.map_toArray, List.map_cons, List.map_nil]); first | done | rfl | (simp only [List.length_drop, List.length_take]; rfl)) ?_; (with_reducible refine (grommetref03_low.calls (IntKind.u64.wrap (a1 * a2)) a3 t185 _ A27.out).mono ?_); rintro e w' ⟨rfl, ⟨nd, rfl⟩⟩; refine ⟨_, rfl, ?_⟩))
              go_ret2
              exact ⟨by first | rfl | (simp; done) | (simp [*]; done), by repeat (first | exact Drawn0.refl _ | apply Drawn0.step)⟩
            · rw [if_neg c26] at H
              have c26b0 : (a0 == 2) = false := beq_eq_false_iff_ne.mpr c26
              have c26b1 : (a0 != 2) = true := bne_iff_ne.mpr c26
              by_cases c28 : a0 ≥ 10
              · rw [if_pos c28] at H
                have c28b0 : decide (10 ≤ a0) = true := decide_eq_true c28
                clear c28
                by_cases c29 : (IntKind.u64.wrap (a3)) = 0
                · rw [if_pos c29] at H
                  exact absurd H (by simp)
                · rw [if_neg c29] at H
                  have c29b0 : ((IntKind.u64.wrap (a3)) == 0) = false := beq_eq_false_iff_ne.mpr c29
                  have c29b1 : ((IntKind.u64.wrap (a3)) != 0) = true := bne_iff_ne.mpr c29
                  replace H := Option.bind_eq_some_iff.mp H
                  obtain ⟨t186, A300, H⟩ := H
                  replace H : (some (t186, 0)) = some (r1, r2) := H
                  have A30 := Aside0.mk A300
                  clear A300
                  simp only [Option.some.injEq, Prod.mk.injEq] at H
                  obtain ⟨rfl, rfl⟩ := H
                  go_wp2_with (first | ((with_reducible refine gate_callee (f := 38) rfl ?_); refine goesL_ (some 93) rfl rfl Tryd.func38 (by kernel_rfl) rfl #[.int .i64 (wrap64 (a0 - 10)), .int .u64 a1, .int .i64 (wrap64 (Int.tmod a2 (IntKind.u64.wrap (a3)))), .int .i64 a3] rfl (by (try simp only [List.map_toArray, List.map_cons, List.map_nil]); first | done | rfl | (simp only [List.length_drop, List.length_take]; rfl)) ?_; (with_reducible refine (grommetref03_shift.calls kj4 (wrap64 (a0 - 10)) a1 (wrap64 (Int.tmod a2 (IntKind.u64.wrap (a3)))) a3 t186 _ A30.out).mono ?_); rintro e w' ⟨rfl, ⟨nd, rfl⟩⟩; refine ⟨_, rfl, ?_⟩))
                  go_ret2
                  exact ⟨by first | rfl | (simp; done) | (simp [*]; done), by repeat (first | exact Drawn0.refl _ | apply Drawn0.step)⟩
              · rw [if_neg c28] at H
                have c28b0 : decide (10 ≤ a0) = false := decide_eq_false c28
                clear c28
                have H' := Aside0.mk H
                clear H
                go_wp2
                go_loopg [13, 14] kj4 (fun kq v13 v14 w' => ∃ (x13_2 : Int) (x14_2 : Int), v13 = .int .u64 x13_2 ∧ v14 = .int .i64 x14_2 ∧ Aside0 (grommetref03_two.l0 kq a0 a1 a2 a3 x13_2 x14_2 = some (r1, r2)) ∧ Aside0 (kq ≤ kj4) ∧ Drawn0 w w')
                case atStart => exact ⟨(0), (0), (by first | rfl | (simp; done) | (simp [*]; done)), (by first | rfl | (simp; done) | (simp [*]; done)), H', ⟨Nat.le_refl _⟩, by repeat (first | exact Drawn0.refl _ | apply Drawn0.step)⟩
                case round =>
                  clear H'
                  try clear c1
                  try clear c2
                  try clear p2
                  try clear c3
                  try clear c4
                  try clear c6
                  try clear c6b0
                  try clear p6
                  try clear c7
                  try clear c9
                  try clear c9b0
                  try clear c9b1
                  try clear c10
                  try clear c10b0
                  try clear c10b1
                  try clear c12
                  try clear c12b0
                  try clear c12b1
                  try clear c14
                  try clear c14b0
                  try clear c14b1
                  try clear c16
                  try clear c16b0
                  try clear c16b1
                  try clear c18
                  try clear c20
                  try clear c20b0
                  try clear c21
                  try clear c21b0
                  try clear c21b1
                  try clear c23
                  try clear c23b0
                  try clear c23b1
                  try clear c26
                  try clear c26b0
                  try clear c26b1
                  try clear c27
                  try clear c28
                  try clear c28b0
                  try clear c29
                  try clear c29b0
                  try clear c29b1
                  try clear p2
                  try clear p6
                  obtain ⟨x13_2, x14_2, rfl, rfl, HA, HK2, ⟨m2, rfl⟩⟩ := hrel
                  cases gk with
                  | zero => exact absurd HA.out (by simp [grommetref03_two.l0])
                  | succ k2 =>
                    have H := HA.out
                    clear HA
                    simp only [grommetref03_two.l0] at H
                    by_cases c31 : x14_2 < a3
                    · rw [if_pos c31] at H
                      have c31b0 : decide (x14_2 < a3) = true := decide_eq_true c31
                      clear c31
                      replace H := Option.bind_eq_some_iff.mp H
                      obtain ⟨t187, A320, H⟩ := H
                      replace H : ((grommetref03_bit.f a2 x14_2).bind fun t188 => (if a0 = 7 then (if (IntKind.u64.wrap (t187 + t188)) = 2 then ((grommetref03_truth.f true).bind fun t189 => (if 0 ≤ x14_2 then (grommetref03_two.l0 k2 a0 a1 a2 a3 (Go.bits .or .u64 x13_2 (shl .u64 t189 x14_2)) (wrap64 (x14_2 + 1))) else (none))) else (if a0 = 8 then (if (IntKind.u64.wrap (t187 + t188)) > 0 then ((grommetref03_truth.f true).bind fun t190 => (if 0 ≤ x14_2 then (grommetref03_two.l0 k2 a0 a1 a2 a3 (Go.bits .or .u64 x13_2 (shl .u64 t190 x14_2)) (wrap64 (x14_2 + 1))) else (none))) else (if a0 = 9 then ((grommetref03_truth.f ((IntKind.u64.wrap (t187 + t188)) == 1)).bind fun t191 => (if 0 ≤ x14_2 then (grommetref03_two.l0 k2 a0 a1 a2 a3 (Go.bits .or .u64 x13_2 (shl .u64 t191 x14_2)) (wrap64 (x14_2 + 1))) else (none))) else ((grommetref03_truth.f false).bind fun t192 => (if 0 ≤ x14_2 then (grommetref03_two.l0 k2 a0 a1 a2 a3 (Go.bits .or .u64 x13_2 (shl .u64 t192 x14_2)) (wrap64 (x14_2 + 1))) else (none))))) else (if a0 = 9 then ((grommetref03_truth.f ((IntKind.u64.wrap (t187 + t188)) == 1)).bind fun t193 => (if 0 ≤ x14_2 then (grommetref03_two.l0 k2 a0 a1 a2 a3 (Go.bits .or .u64 x13_2 (shl .u64 t193 x14_2)) (wrap64 (x14_2 + 1))) else (none))) else ((grommetref03_truth.f false).bind fun t194 => (if 0 ≤ x14_2 then (grommetref03_two.l0 k2 a0 a1 a2 a3 (Go.bits .or .u64 x13_2 (shl .u64 t194 x14_2)) (wrap64 (x14_2 + 1))) else (none)))))) else (if a0 = 8 then (if (IntKind.u64.wrap (t187 + t188)) > 0 then ((grommetref03_truth.f true).bind fun t195 => (if 0 ≤ x14_2 then (grommetref03_two.l0 k2 a0 a1 a2 a3 (Go.bits .or .u64 x13_2 (shl .u64 t195 x14_2)) (wrap64 (x14_2 + 1))) else (none))) else (if a0 = 9 then ((grommetref03_truth.f ((IntKind.u64.wrap (t187 + t188)) == 1)).bind fun t196 => (if 0 ≤ x14_2 then (grommetref03_two.l0 k2 a0 a1 a2 a3 (Go.bits .or .u64 x13_2 (shl .u64 t196 x14_2)) (wrap64 (x14_2 + 1))) else (none))) else ((grommetref03_truth.f false).bind fun t197 => (if 0 ≤ x14_2 then (grommetref03_two.l0 k2 a0 a1 a2 a3 (Go.bits .or .u64 x13_2 (shl .u64 t197 x14_2)) (wrap64 (x14_2 + 1))) else (none))))) else (if a0 = 9 then ((grommetref03_truth.f ((IntKind.u64.wrap (t187 + t188)) == 1)).bind fun t198 => (if 0 ≤ x14_2 then (grommetref03_two.l0 k2 a0 a1 a2 a3 (Go.bits .or .u64 x13_2 (shl .u64 t198 x14_2)) (wrap64 (x14_2 + 1))) else (none))) else ((grommetref03_truth.f false).bind fun t199 => (if 0 ≤ x14_2 then (grommetref03_two.l0 k2 a0 a1 a2 a3 (Go.bits .or .u64 x13_2 (shl .u64 t199 x14_2)) (wrap64 (x14_2 + 1))) else (none))))))) = some (r1, r2) := H
                      have A32 := Aside0.mk A320
                      clear A320
                      replace H := Option.bind_eq_some_iff.mp H
                      obtain ⟨t188, A330, H⟩ := H
                      replace H : (if a0 = 7 then (if (IntKind.u64.wrap (t187 + t188)) = 2 then ((grommetref03_truth.f true).bind fun t189 => (if 0 ≤ x14_2 then (grommetref03_two.l0 k2 a0 a1 a2 a3 (Go.bits .or .u64 x13_2 (shl .u64 t189 x14_2)) (wrap64 (x14_2 + 1))) else (none))) else (if a0 = 8 then (if (IntKind.u64.wrap (t187 + t188)) > 0 then ((grommetref03_truth.f true).bind fun t190 => (if 0 ≤ x14_2 then (grommetref03_two.l0 k2 a0 a1 a2 a3 (Go.bits .or .u64 x13_2 (shl .u64 t190 x14_2)) (wrap64 (x14_2 + 1))) else (none))) else (if a0 = 9 then ((grommetref03_truth.f ((IntKind.u64.wrap (t187 + t188)) == 1)).bind fun t191 => (if 0 ≤ x14_2 then (grommetref03_two.l0 k2 a0 a1 a2 a3 (Go.bits .or .u64 x13_2 (shl .u64 t191 x14_2)) (wrap64 (x14_2 + 1))) else (none))) else ((grommetref03_truth.f false).bind fun t192 => (if 0 ≤ x14_2 then (grommetref03_two.l0 k2 a0 a1 a2 a3 (Go.bits .or .u64 x13_2 (shl .u64 t192 x14_2)) (wrap64 (x14_2 + 1))) else (none))))) else (if a0 = 9 then ((grommetref03_truth.f ((IntKind.u64.wrap (t187 + t188)) == 1)).bind fun t193 => (if 0 ≤ x14_2 then (grommetref03_two.l0 k2 a0 a1 a2 a3 (Go.bits .or .u64 x13_2 (shl .u64 t193 x14_2)) (wrap64 (x14_2 + 1))) else (none))) else ((grommetref03_truth.f false).bind fun t194 => (if 0 ≤ x14_2 then (grommetref03_two.l0 k2 a0 a1 a2 a3 (Go.bits .or .u64 x13_2 (shl .u64 t194 x14_2)) (wrap64 (x14_2 + 1))) else (none)))))) else (if a0 = 8 then (if (IntKind.u64.wrap (t187 + t188)) > 0 then ((grommetref03_truth.f true).bind fun t195 => (if 0 ≤ x14_2 then (grommetref03_two.l0 k2 a0 a1 a2 a3 (Go.bits .or .u64 x13_2 (shl .u64 t195 x14_2)) (wrap64 (x14_2 + 1))) else (none))) else (if a0 = 9 then ((grommetref03_truth.f ((IntKind.u64.wrap (t187 + t188)) == 1)).bind fun t196 => (if 0 ≤ x14_2 then (grommetref03_two.l0 k2 a0 a1 a2 a3 (Go.bits .or .u64 x13_2 (shl .u64 t196 x14_2)) (wrap64 (x14_2 + 1))) else (none))) else ((grommetref03_truth.f false).bind fun t197 => (if 0 ≤ x14_2 then (grommetref03_two.l0 k2 a0 a1 a2 a3 (Go.bits .or .u64 x13_2 (shl .u64 t197 x14_2)) (wrap64 (x14_2 + 1))) else (none))))) else (if a0 = 9 then ((grommetref03_truth.f ((IntKind.u64.wrap (t187 + t188)) == 1)).bind fun t198 => (if 0 ≤ x14_2 then (grommetref03_two.l0 k2 a0 a1 a2 a3 (Go.bits .or .u64 x13_2 (shl .u64 t198 x14_2)) (wrap64 (x14_2 + 1))) else (none))) else ((grommetref03_truth.f false).bind fun t199 => (if 0 ≤ x14_2 then (grommetref03_two.l0 k2 a0 a1 a2 a3 (Go.bits .or .u64 x13_2 (shl .u64 t199 x14_2)) (wrap64 (x14_2 + 1))) else (none)))))) = some (r1, r2) := H
                      have A33 := Aside0.mk A330
                      clear A330
                      by_cases c34 : a0 = 7
                      · rw [if_pos c34] at H
                        have c34b0 : (a0 == 7) = true := beq_iff_eq.mpr c34
                        have c34b1 : (a0 != 7) = false := bne_eq_false_iff_eq.mpr c34
                        clear c34
                        by_cases c35 : (IntKind.u64.wrap (t187 + t188)) = 2
                        · rw [if_pos c35] at H
                          have c35b0 : ((IntKind.u64.wrap (t187 + t188)) == 2) = true := beq_iff_eq.mpr c35
                          have c35b1 : ((IntKind.u64.wrap (t187 + t188)) != 2) = false := bne_eq_false_iff_eq.mpr c35
                          clear c35
                          replace H := Option.bind_eq_some_iff.mp H
                          obtain ⟨t189, A360, H⟩ := H
                          replace H : (if 0 ≤ x14_2 then (grommetref03_two.l0 k2 a0 a1 a2 a3 (Go.bits .or .u64 x13_2 (shl .u64 t189 x14_2)) (wrap64 (x14_2 + 1))) else (none)) = some (r1, r2) := H
                          have A36 := Aside0.mk A360
                          clear A360
                          by_cases c37 : 0 ≤ x14_2
                          · rw [if_pos c37] at H
                            have c37b0 := eq_true c37
                            have c37b1 : decide (0 ≤ x14_2) = true := decide_eq_true c37
                            clear c37
                            obtain ⟨ji38, hji38⟩ : ∃ j_ : Int, (shl .u64 t189 x14_2) = j_ := ⟨_, rfl⟩
                            replace H : (grommetref03_two.l0 k2 a0 a1 a2 a3 (Go.bits .or .u64 x13_2 (ji38)) (wrap64 (x14_2 + 1))) = some (r1, r2) := by first | (rw [hji38] at H; exact H) | (simp only [hji38] at H ⊢; exact H)
                            (try rw [hji38] at A32)
                            (try rw [hji38] at A33)
                            (try rw [hji38] at A36)
                            have hji38_ : (IntKind.u64.wrap (t189 * 2 ^ min x14_2.toNat 64)) = ji38 := hji38
                            have hji38z : x14_2 ≤ 64 → (IntKind.u64.wrap (t189 * 2 ^ x14_2.toNat)) = ji38 := shl_small hji38
                            have H' := Aside0.mk H
                            clear H
                            go_wp2_with (first | ((with_reducible refine gate_callee (f := 33) rfl ?_); refine goesL_ (some 101) rfl rfl Tryd.func33 (by kernel_rfl) rfl #[.int .u64 a1, .int .i64 x14_2] rfl (by (try simp only [List.map_toArray, List.map_cons, List.map_nil]); first | done | rfl | (simp only [List.length_drop, List.length_take]; rfl)) ?_; (with_reducible refine (grommetref03_bit.calls a1 x14_2 t187 _ A32.out).mono ?_); rintro e w' ⟨rfl, ⟨nd, rfl⟩⟩; refine ⟨_, rfl, ?_⟩) | ((with_reducible refine gate_callee (f := 33) rfl ?_); refine goesL_ (some 104) rfl rfl Tryd.func33 (by kernel_rfl) rfl #[.int .u64 a2, .int .i64 x14_2] rfl (by (try simp only [List.map_toArray, List.map_cons, List.map_nil]); first | done | rfl | (simp only [List.length_drop, List.length_take]; rfl)) ?_; (with_reducible refine (grommetref03_bit.calls a2 x14_2 t188 _ A33.out).mono ?_); rintro e w' ⟨rfl, ⟨nd, rfl⟩⟩; refine ⟨_, rfl, ?_⟩) | ((with_reducible refine gate_callee (f := 23) rfl ?_); refine goesL_ (some 130) rfl rfl Tryd.func23 (by kernel_rfl) rfl #[.bool true] rfl (by (try simp only [List.map_toArray, List.map_cons, List.map_nil]); first | done | rfl | (simp only [List.length_drop, List.length_take]; rfl)) ?_; (with_reducible refine (grommetref03_truth.calls true t189 _ A36.out).mono ?_); rintro e w' ⟨rfl, ⟨nd, rfl⟩⟩; refine ⟨_, rfl, ?_⟩))
                            go_roundg k2
                            case measure => have := HJ4.out; have := HK2.out; omega
                            case rel => exact ⟨(Go.bits .or .u64 x13_2 (ji38)), (wrap64 (x14_2 + 1)), (by first | rfl | (simp; done) | (simp only [← hji38] <;> (first | rfl | (simp; done) | (simp; rw [shl_any]; done) | simp)) | (simp [*]; done)), (by first | rfl | (simp; done) | (simp [*]; done)), H', ⟨by have := HJ4.out; have := HK2.out; omega⟩, by repeat (first | exact Drawn0.refl _ | apply Drawn0.step)⟩
                          · rw [if_neg c37] at H
                            exact absurd H (by simp)
                        · rw [if_neg c35] at H
                          have c35b0 : ((IntKind.u64.wrap (t187 + t188)) == 2) = false := beq_eq_false_iff_ne.mpr c35
                          have c35b1 : ((IntKind.u64.wrap (t187 + t188)) != 2) = true := bne_iff_ne.mpr c35
                          by_cases c39 : a0 = 8
                          · rw [if_pos c39] at H
                            have c39b0 : (a0 == 8) = true := beq_iff_eq.mpr c39
                            have c39b1 : (a0 != 8) = false := bne_eq_false_iff_eq.mpr c39
                            clear c39
                            by_cases c40 : (IntKind.u64.wrap (t187 + t188)) > 0
                            · rw [if_pos c40] at H
                              have c40b0 : decide (0 < (IntKind.u64.wrap (t187 + t188))) = true := decide_eq_true c40
                              clear c40
                              replace H := Option.bind_eq_some_iff.mp H
                              obtain ⟨t190, A410, H⟩ := H
                              replace H : (if 0 ≤ x14_2 then (grommetref03_two.l0 k2 a0 a1 a2 a3 (Go.bits .or .u64 x13_2 (shl .u64 t190 x14_2)) (wrap64 (x14_2 + 1))) else (none)) = some (r1, r2) := H
                              have A41 := Aside0.mk A410
                              clear A410
                              by_cases c42 : 0 ≤ x14_2
                              · rw [if_pos c42] at H
                                have c42b0 := eq_true c42
                                have c42b1 : decide (0 ≤ x14_2) = true := decide_eq_true c42
                                clear c42
                                obtain ⟨ji43, hji43⟩ : ∃ j_ : Int, (shl .u64 t190 x14_2) = j_ := ⟨_, rfl⟩
                                replace H : (grommetref03_two.l0 k2 a0 a1 a2 a3 (Go.bits .or .u64 x13_2 (ji43)) (wrap64 (x14_2 + 1))) = some (r1, r2) := by first | (rw [hji43] at H; exact H) | (simp only [hji43] at H ⊢; exact H)
                                (try rw [hji43] at A32)
                                (try rw [hji43] at A33)
                                (try rw [hji43] at A41)
                                have hji43_ : (IntKind.u64.wrap (t190 * 2 ^ min x14_2.toNat 64)) = ji43 := hji43
                                have hji43z : x14_2 ≤ 64 → (IntKind.u64.wrap (t190 * 2 ^ x14_2.toNat)) = ji43 := shl_small hji43
                                have H' := Aside0.mk H
                                clear H
                                go_wp2_with (first | ((with_reducible refine gate_callee (f := 33) rfl ?_); refine goesL_ (some 101) rfl rfl Tryd.func33 (by kernel_rfl) rfl #[.int .u64 a1, .int .i64 x14_2] rfl (by (try simp only [List.map_toArray, List.map_cons, List.map_nil]); first | done | rfl | (simp only [List.length_drop, List.length_take]; rfl)) ?_; (with_reducible refine (grommetref03_bit.calls a1 x14_2 t187 _ A32.out).mono ?_); rintro e w' ⟨rfl, ⟨nd, rfl⟩⟩; refine ⟨_, rfl, ?_⟩) | ((with_reducible refine gate_callee (f := 33) rfl ?_); refine goesL_ (some 104) rfl rfl Tryd.func33 (by kernel_rfl) rfl #[.int .u64 a2, .int .i64 x14_2] rfl (by (try simp only [List.map_toArray, List.map_cons, List.map_nil]); first | done | rfl | (simp only [List.length_drop, List.length_take]; rfl)) ?_; (with_reducible refine (grommetref03_bit.calls a2 x14_2 t188 _ A33.out).mono ?_); rintro e w' ⟨rfl, ⟨nd, rfl⟩⟩; refine ⟨_, rfl, ?_⟩) | ((with_reducible refine gate_callee (f := 23) rfl ?_); refine goesL_ (some 130) rfl rfl Tryd.func23 (by kernel_rfl) rfl #[.bool true] rfl (by (try simp only [List.map_toArray, List.map_cons, List.map_nil]); first | done | rfl | (simp only [List.length_drop, List.length_take]; rfl)) ?_; (with_reducible refine (grommetref03_truth.calls true t190 _ A41.out).mono ?_); rintro e w' ⟨rfl, ⟨nd, rfl⟩⟩; refine ⟨_, rfl, ?_⟩))
                                go_roundg k2
                                case measure => have := HJ4.out; have := HK2.out; omega
                                case rel => exact ⟨(Go.bits .or .u64 x13_2 (ji43)), (wrap64 (x14_2 + 1)), (by first | rfl | (simp; done) | (simp only [← hji43] <;> (first | rfl | (simp; done) | (simp; rw [shl_any]; done) | simp)) | (simp [*]; done)), (by first | rfl | (simp; done) | (simp [*]; done)), H', ⟨by have := HJ4.out; have := HK2.out; omega⟩, by repeat (first | exact Drawn0.refl _ | apply Drawn0.step)⟩
                              · rw [if_neg c42] at H
                                exact absurd H (by simp)
                            · rw [if_neg c40] at H
                              have c40b0 : decide (0 < (IntKind.u64.wrap (t187 + t188))) = false := decide_eq_false c40
                              clear c40
                              by_cases c44 : a0 = 9
                              · rw [if_pos c44] at H
                                have c44b0 : (a0 == 9) = true := beq_iff_eq.mpr c44
                                have c44b1 : (a0 != 9) = false := bne_eq_false_iff_eq.mpr c44
                                clear c44
                                replace H := Option.bind_eq_some_iff.mp H
                                obtain ⟨t191, A450, H⟩ := H
                                replace H : (if 0 ≤ x14_2 then (grommetref03_two.l0 k2 a0 a1 a2 a3 (Go.bits .or .u64 x13_2 (shl .u64 t191 x14_2)) (wrap64 (x14_2 + 1))) else (none)) = some (r1, r2) := H
                                have A45 := Aside0.mk A450
                                clear A450
                                by_cases c46 : 0 ≤ x14_2
                                · rw [if_pos c46] at H
                                  have c46b0 := eq_true c46
                                  have c46b1 : decide (0 ≤ x14_2) = true := decide_eq_true c46
                                  clear c46
                                  obtain ⟨ji47, hji47⟩ : ∃ j_ : Int, (shl .u64 t191 x14_2) = j_ := ⟨_, rfl⟩
                                  replace H : (grommetref03_two.l0 k2 a0 a1 a2 a3 (Go.bits .or .u64 x13_2 (ji47)) (wrap64 (x14_2 + 1))) = some (r1, r2) := by first | (rw [hji47] at H; exact H) | (simp only [hji47] at H ⊢; exact H)
                                  (try rw [hji47] at A32)
                                  (try rw [hji47] at A33)
                                  (try rw [hji47] at A45)
                                  have hji47_ : (IntKind.u64.wrap (t191 * 2 ^ min x14_2.toNat 64)) = ji47 := hji47
                                  have hji47z : x14_2 ≤ 64 → (IntKind.u64.wrap (t191 * 2 ^ x14_2.toNat)) = ji47 := shl_small hji47
                                  have H' := Aside0.mk H
                                  clear H
                                  go_wp2_with (first | ((with_reducible refine gate_callee (f := 33) rfl ?_); refine goesL_ (some 101) rfl rfl Tryd.func33 (by kernel_rfl) rfl #[.int .u64 a1, .int .i64 x14_2] rfl (by (try simp only [List.map_toArray, List.map_cons, List.map_nil]); first | done | rfl | (simp only [List.length_drop, List.length_take]; rfl)) ?_; (with_reducible refine (grommetref03_bit.calls a1 x14_2 t187 _ A32.out).mono ?_); rintro e w' ⟨rfl, ⟨nd, rfl⟩⟩; refine ⟨_, rfl, ?_⟩) | ((with_reducible refine gate_callee (f := 33) rfl ?_); refine goesL_ (some 104) rfl rfl Tryd.func33 (by kernel_rfl) rfl #[.int .u64 a2, .int .i64 x14_2] rfl (by (try simp only [List.map_toArray, List.map_cons, List.map_nil]); first | done | rfl | (simp only [List.length_drop, List.length_take]; rfl)) ?_; (with_reducible refine (grommetref03_bit.calls a2 x14_2 t188 _ A33.out).mono ?_); rintro e w' ⟨rfl, ⟨nd, rfl⟩⟩; refine ⟨_, rfl, ?_⟩) | ((with_reducible refine gate_callee (f := 23) rfl ?_); refine goesL_ (some 130) rfl rfl Tryd.func23 (by kernel_rfl) rfl #[.bool ((IntKind.u64.wrap (t187 + t188)) == 1)] rfl (by (try simp only [List.map_toArray, List.map_cons, List.map_nil]); first | done | rfl | (simp only [List.length_drop, List.length_take]; rfl)) ?_; (with_reducible refine (grommetref03_truth.calls ((IntKind.u64.wrap (t187 + t188)) == 1) t191 _ A45.out).mono ?_); rintro e w' ⟨rfl, ⟨nd, rfl⟩⟩; refine ⟨_, rfl, ?_⟩))
                                  go_roundg k2
                                  case measure => have := HJ4.out; have := HK2.out; omega
                                  case rel => exact ⟨(Go.bits .or .u64 x13_2 (ji47)), (wrap64 (x14_2 + 1)), (by first | rfl | (simp; done) | (simp only [← hji47] <;> (first | rfl | (simp; done) | (simp; rw [shl_any]; done) | simp)) | (simp [*]; done)), (by first | rfl | (simp; done) | (simp [*]; done)), H', ⟨by have := HJ4.out; have := HK2.out; omega⟩, by repeat (first | exact Drawn0.refl _ | apply Drawn0.step)⟩
                                · rw [if_neg c46] at H
                                  exact absurd H (by simp)
                              · rw [if_neg c44] at H
                                have c44b0 : (a0 == 9) = false := beq_eq_false_iff_ne.mpr c44
                                have c44b1 : (a0 != 9) = true := bne_iff_ne.mpr c44
                                replace H := Option.bind_eq_some_iff.mp H
                                obtain ⟨t192, A480, H⟩ := H
                                replace H : (if 0 ≤ x14_2 then (grommetref03_two.l0 k2 a0 a1 a2 a3 (Go.bits .or .u64 x13_2 (shl .u64 t192 x14_2)) (wrap64 (x14_2 + 1))) else (none)) = some (r1, r2) := H
                                have A48 := Aside0.mk A480
                                clear A480
                                by_cases c49 : 0 ≤ x14_2
                                · rw [if_pos c49] at H
                                  have c49b0 := eq_true c49
                                  have c49b1 : decide (0 ≤ x14_2) = true := decide_eq_true c49
                                  clear c49
                                  obtain ⟨ji50, hji50⟩ : ∃ j_ : Int, (shl .u64 t192 x14_2) = j_ := ⟨_, rfl⟩
                                  replace H : (grommetref03_two.l0 k2 a0 a1 a2 a3 (Go.bits .or .u64 x13_2 (ji50)) (wrap64 (x14_2 + 1))) = some (r1, r2) := by first | (rw [hji50] at H; exact H) | (simp only [hji50] at H ⊢; exact H)
                                  (try rw [hji50] at A32)
                                  (try rw [hji50] at A33)
                                  (try rw [hji50] at A48)
                                  have hji50_ : (IntKind.u64.wrap (t192 * 2 ^ min x14_2.toNat 64)) = ji50 := hji50
                                  have hji50z : x14_2 ≤ 64 → (IntKind.u64.wrap (t192 * 2 ^ x14_2.toNat)) = ji50 := shl_small hji50
                                  have H' := Aside0.mk H
                                  clear H
                                  go_wp2_with (first | ((with_reducible refine gate_callee (f := 33) rfl ?_); refine goesL_ (some 101) rfl rfl Tryd.func33 (by kernel_rfl) rfl #[.int .u64 a1, .int .i64 x14_2] rfl (by (try simp only [List.map_toArray, List.map_cons, List.map_nil]); first | done | rfl | (simp only [List.length_drop, List.length_take]; rfl)) ?_; (with_reducible refine (grommetref03_bit.calls a1 x14_2 t187 _ A32.out).mono ?_); rintro e w' ⟨rfl, ⟨nd, rfl⟩⟩; refine ⟨_, rfl, ?_⟩) | ((with_reducible refine gate_callee (f := 33) rfl ?_); refine goesL_ (some 104) rfl rfl Tryd.func33 (by kernel_rfl) rfl #[.int .u64 a2, .int .i64 x14_2] rfl (by (try simp only [List.map_toArray, List.map_cons, List.map_nil]); first | done | rfl | (simp only [List.length_drop, List.length_take]; rfl)) ?_; (with_reducible refine (grommetref03_bit.calls a2 x14_2 t188 _ A33.out).mono ?_); rintro e w' ⟨rfl, ⟨nd, rfl⟩⟩; refine ⟨_, rfl, ?_⟩) | ((with_reducible refine gate_callee (f := 23) rfl ?_); refine goesL_ (some 130) rfl rfl Tryd.func23 (by kernel_rfl) rfl #[.bool false] rfl (by (try simp only [List.map_toArray, List.map_cons, List.map_nil]); first | done | rfl | (simp only [List.length_drop, List.length_take]; rfl)) ?_; (with_reducible refine (grommetref03_truth.calls false t192 _ A48.out).mono ?_); rintro e w' ⟨rfl, ⟨nd, rfl⟩⟩; refine ⟨_, rfl, ?_⟩))
                                  go_roundg k2
                                  case measure => have := HJ4.out; have := HK2.out; omega
                                  case rel => exact ⟨(Go.bits .or .u64 x13_2 (ji50)), (wrap64 (x14_2 + 1)), (by first | rfl | (simp; done) | (simp only [← hji50] <;> (first | rfl | (simp; done) | (simp; rw [shl_any]; done) | simp)) | (simp [*]; done)), (by first | rfl | (simp; done) | (simp [*]; done)), H', ⟨by have := HJ4.out; have := HK2.out; omega⟩, by repeat (first | exact Drawn0.refl _ | apply Drawn0.step)⟩
                                · rw [if_neg c49] at H
                                  exact absurd H (by simp)
                          · rw [if_neg c39] at H
                            have c39b0 : (a0 == 8) = false := beq_eq_false_iff_ne.mpr c39
                            have c39b1 : (a0 != 8) = true := bne_iff_ne.mpr c39
                            by_cases c51 : a0 = 9
                            · rw [if_pos c51] at H
                              have c51b0 : (a0 == 9) = true := beq_iff_eq.mpr c51
                              have c51b1 : (a0 != 9) = false := bne_eq_false_iff_eq.mpr c51
                              clear c51
                              replace H := Option.bind_eq_some_iff.mp H
                              obtain ⟨t193, A520, H⟩ := H
                              replace H : (if 0 ≤ x14_2 then (grommetref03_two.l0 k2 a0 a1 a2 a3 (Go.bits .or .u64 x13_2 (shl .u64 t193 x14_2)) (wrap64 (x14_2 + 1))) else (none)) = some (r1, r2) := H
                              have A52 := Aside0.mk A520
                              clear A520
                              by_cases c53 : 0 ≤ x14_2
                              · rw [if_pos c53] at H
                                have c53b0 := eq_true c53
                                have c53b1 : decide (0 ≤ x14_2) = true := decide_eq_true c53
                                clear c53
                                obtain ⟨ji54, hji54⟩ : ∃ j_ : Int, (shl .u64 t193 x14_2) = j_ := ⟨_, rfl⟩
                                replace H : (grommetref03_two.l0 k2 a0 a1 a2 a3 (Go.bits .or .u64 x13_2 (ji54)) (wrap64 (x14_2 + 1))) = some (r1, r2) := by first | (rw [hji54] at H; exact H) | (simp only [hji54] at H ⊢; exact H)
                                (try rw [hji54] at A32)
                                (try rw [hji54] at A33)
                                (try rw [hji54] at A52)
                                have hji54_ : (IntKind.u64.wrap (t193 * 2 ^ min x14_2.toNat 64)) = ji54 := hji54
                                have hji54z : x14_2 ≤ 64 → (IntKind.u64.wrap (t193 * 2 ^ x14_2.toNat)) = ji54 := shl_small hji54
                                have H' := Aside0.mk H
                                clear H
                                go_wp2_with (first | ((with_reducible refine gate_callee (f := 33) rfl ?_); refine goesL_ (some 101) rfl rfl Tryd.func33 (by kernel_rfl) rfl #[.int .u64 a1, .int .i64 x14_2] rfl (by (try simp only [List.map_toArray, List.map_cons, List.map_nil]); first | done | rfl | (simp only [List.length_drop, List.length_take]; rfl)) ?_; (with_reducible refine (grommetref03_bit.calls a1 x14_2 t187 _ A32.out).mono ?_); rintro e w' ⟨rfl, ⟨nd, rfl⟩⟩; refine ⟨_, rfl, ?_⟩) | ((with_reducible refine gate_callee (f := 33) rfl ?_); refine goesL_ (some 104) rfl rfl Tryd.func33 (by kernel_rfl) rfl #[.int .u64 a2, .int .i64 x14_2] rfl (by (try simp only [List.map_toArray, List.map_cons, List.map_nil]); first | done | rfl | (simp only [List.length_drop, List.length_take]; rfl)) ?_; (with_reducible refine (grommetref03_bit.calls a2 x14_2 t188 _ A33.out).mono ?_); rintro e w' ⟨rfl, ⟨nd, rfl⟩⟩; refine ⟨_, rfl, ?_⟩) | ((with_reducible refine gate_callee (f := 23) rfl ?_); refine goesL_ (some 130) rfl rfl Tryd.func23 (by kernel_rfl) rfl #[.bool ((IntKind.u64.wrap (t187 + t188)) == 1)] rfl (by (try simp only [List.map_toArray, List.map_cons, List.map_nil]); first | done | rfl | (simp only [List.length_drop, List.length_take]; rfl)) ?_; (with_reducible refine (grommetref03_truth.calls ((IntKind.u64.wrap (t187 + t188)) == 1) t193 _ A52.out).mono ?_); rintro e w' ⟨rfl, ⟨nd, rfl⟩⟩; refine ⟨_, rfl, ?_⟩))
                                go_roundg k2
                                case measure => have := HJ4.out; have := HK2.out; omega
                                case rel => exact ⟨(Go.bits .or .u64 x13_2 (ji54)), (wrap64 (x14_2 + 1)), (by first | rfl | (simp; done) | (simp only [← hji54] <;> (first | rfl | (simp; done) | (simp; rw [shl_any]; done) | simp)) | (simp [*]; done)), (by first | rfl | (simp; done) | (simp [*]; done)), H', ⟨by have := HJ4.out; have := HK2.out; omega⟩, by repeat (first | exact Drawn0.refl _ | apply Drawn0.step)⟩
                              · rw [if_neg c53] at H
                                exact absurd H (by simp)
                            · rw [if_neg c51] at H
                              have c51b0 : (a0 == 9) = false := beq_eq_false_iff_ne.mpr c51
                              have c51b1 : (a0 != 9) = true := bne_iff_ne.mpr c51
                              replace H := Option.bind_eq_some_iff.mp H
                              obtain ⟨t194, A550, H⟩ := H
                              replace H : (if 0 ≤ x14_2 then (grommetref03_two.l0 k2 a0 a1 a2 a3 (Go.bits .or .u64 x13_2 (shl .u64 t194 x14_2)) (wrap64 (x14_2 + 1))) else (none)) = some (r1, r2) := H
                              have A55 := Aside0.mk A550
                              clear A550
                              by_cases c56 : 0 ≤ x14_2
                              · rw [if_pos c56] at H
                                have c56b0 := eq_true c56
                                have c56b1 : decide (0 ≤ x14_2) = true := decide_eq_true c56
                                clear c56
                                obtain ⟨ji57, hji57⟩ : ∃ j_ : Int, (shl .u64 t194 x14_2) = j_ := ⟨_, rfl⟩
                                replace H : (grommetref03_two.l0 k2 a0 a1 a2 a3 (Go.bits .or .u64 x13_2 (ji57)) (wrap64 (x14_2 + 1))) = some (r1, r2) := by first | (rw [hji57] at H; exact H) | (simp only [hji57] at H ⊢; exact H)
                                (try rw [hji57] at A32)
                                (try rw [hji57] at A33)
                                (try rw [hji57] at A55)
                                have hji57_ : (IntKind.u64.wrap (t194 * 2 ^ min x14_2.toNat 64)) = ji57 := hji57
                                have hji57z : x14_2 ≤ 64 → (IntKind.u64.wrap (t194 * 2 ^ x14_2.toNat)) = ji57 := shl_small hji57
                                have H' := Aside0.mk H
                                clear H
                                go_wp2_with (first | ((with_reducible refine gate_callee (f := 33) rfl ?_); refine goesL_ (some 101) rfl rfl Tryd.func33 (by kernel_rfl) rfl #[.int .u64 a1, .int .i64 x14_2] rfl (by (try simp only [List.map_toArray, List.map_cons, List.map_nil]); first | done | rfl | (simp only [List.length_drop, List.length_take]; rfl)) ?_; (with_reducible refine (grommetref03_bit.calls a1 x14_2 t187 _ A32.out).mono ?_); rintro e w' ⟨rfl, ⟨nd, rfl⟩⟩; refine ⟨_, rfl, ?_⟩) | ((with_reducible refine gate_callee (f := 33) rfl ?_); refine goesL_ (some 104) rfl rfl Tryd.func33 (by kernel_rfl) rfl #[.int .u64 a2, .int .i64 x14_2] rfl (by (try simp only [List.map_toArray, List.map_cons, List.map_nil]); first | done | rfl | (simp only [List.length_drop, List.length_take]; rfl)) ?_; (with_reducible refine (grommetref03_bit.calls a2 x14_2 t188 _ A33.out).mono ?_); rintro e w' ⟨rfl, ⟨nd, rfl⟩⟩; refine ⟨_, rfl, ?_⟩) | ((with_reducible refine gate_callee (f := 23) rfl ?_); refine goesL_ (some 130) rfl rfl Tryd.func23 (by kernel_rfl) rfl #[.bool false] rfl (by (try simp only [List.map_toArray, List.map_cons, List.map_nil]); first | done | rfl | (simp only [List.length_drop, List.length_take]; rfl)) ?_; (with_reducible refine (grommetref03_truth.calls false t194 _ A55.out).mono ?_); rintro e w' ⟨rfl, ⟨nd, rfl⟩⟩; refine ⟨_, rfl, ?_⟩))
                                go_roundg k2
                                case measure => have := HJ4.out; have := HK2.out; omega
                                case rel => exact ⟨(Go.bits .or .u64 x13_2 (ji57)), (wrap64 (x14_2 + 1)), (by first | rfl | (simp; done) | (simp only [← hji57] <;> (first | rfl | (simp; done) | (simp; rw [shl_any]; done) | simp)) | (simp [*]; done)), (by first | rfl | (simp; done) | (simp [*]; done)), H', ⟨by have := HJ4.out; have := HK2.out; omega⟩, by repeat (first | exact Drawn0.refl _ | apply Drawn0.step)⟩
                              · rw [if_neg c56] at H
                                exact absurd H (by simp)
                      · rw [if_neg c34] at H
                        have c34b0 : (a0 == 7) = false := beq_eq_false_iff_ne.mpr c34
                        have c34b1 : (a0 != 7) = true := bne_iff_ne.mpr c34
                        by_cases c58 : a0 = 8
                        · rw [if_pos c58] at H
                          have c58b0 : (a0 == 8) = true := beq_iff_eq.mpr c58
                          have c58b1 : (a0 != 8) = false := bne_eq_false_iff_eq.mpr c58
                          clear c58
                          by_cases c59 : (IntKind.u64.wrap (t187 + t188)) > 0
                          · rw [if_pos c59] at H
                            have c59b0 : decide (0 < (IntKind.u64.wrap (t187 + t188))) = true := decide_eq_true c59
                            clear c59
                            replace H := Option.bind_eq_some_iff.mp H
                            obtain ⟨t195, A600, H⟩ := H
                            replace H : (if 0 ≤ x14_2 then (grommetref03_two.l0 k2 a0 a1 a2 a3 (Go.bits .or .u64 x13_2 (shl .u64 t195 x14_2)) (wrap64 (x14_2 + 1))) else (none)) = some (r1, r2) := H
                            have A60 := Aside0.mk A600
                            clear A600
                            by_cases c61 : 0 ≤ x14_2
                            · rw [if_pos c61] at H
                              have c61b0 := eq_true c61
                              have c61b1 : decide (0 ≤ x14_2) = true := decide_eq_true c61
                              clear c61
                              obtain ⟨ji62, hji62⟩ : ∃ j_ : Int, (shl .u64 t195 x14_2) = j_ := ⟨_, rfl⟩
                              replace H : (grommetref03_two.l0 k2 a0 a1 a2 a3 (Go.bits .or .u64 x13_2 (ji62)) (wrap64 (x14_2 + 1))) = some (r1, r2) := by first | (rw [hji62] at H; exact H) | (simp only [hji62] at H ⊢; exact H)
                              (try rw [hji62] at A32)
                              (try rw [hji62] at A33)
                              (try rw [hji62] at A60)
                              have hji62_ : (IntKind.u64.wrap (t195 * 2 ^ min x14_2.toNat 64)) = ji62 := hji62
                              have hji62z : x14_2 ≤ 64 → (IntKind.u64.wrap (t195 * 2 ^ x14_2.toNat)) = ji62 := shl_small hji62
                              have H' := Aside0.mk H
                              clear H
                              go_wp2_with (first | ((with_reducible refine gate_callee (f := 33) rfl ?_); refine goesL_ (some 101) rfl rfl Tryd.func33 (by kernel_rfl) rfl #[.int .u64 a1, .int .i64 x14_2] rfl (by (try simp only [List.map_toArray, List.map_cons, List.map_nil]); first | done | rfl | (simp only [List.length_drop, List.length_take]; rfl)) ?_; (with_reducible refine (grommetref03_bit.calls a1 x14_2 t187 _ A32.out).mono ?_); rintro e w' ⟨rfl, ⟨nd, rfl⟩⟩; refine ⟨_, rfl, ?_⟩) | ((with_reducible refine gate_callee (f := 33) rfl ?_); refine goesL_ (some 104) rfl rfl Tryd.func33 (by kernel_rfl) rfl #[.int .u64 a2, .int .i64 x14_2] rfl (by (try simp only [List.map_toArray, List.map_cons, List.map_nil]); first | done | rfl | (simp only [List.length_drop, List.length_take]; rfl)) ?_; (with_reducible refine (grommetref03_bit.calls a2 x14_2 t188 _ A33.out).mono ?_); rintro e w' ⟨rfl, ⟨nd, rfl⟩⟩; refine ⟨_, rfl, ?_⟩) | ((with_reducible refine gate_callee (f := 23) rfl ?_); refine goesL_ (some 130) rfl rfl Tryd.func23 (by kernel_rfl) rfl #[.bool true] rfl (by (try simp only [List.map_toArray, List.map_cons, List.map_nil]); first | done | rfl | (simp only [List.length_drop, List.length_take]; rfl)) ?_; (with_reducible refine (grommetref03_truth.calls true t195 _ A60.out).mono ?_); rintro e w' ⟨rfl, ⟨nd, rfl⟩⟩; refine ⟨_, rfl, ?_⟩))
                              go_roundg k2
                              case measure => have := HJ4.out; have := HK2.out; omega
                              case rel => exact ⟨(Go.bits .or .u64 x13_2 (ji62)), (wrap64 (x14_2 + 1)), (by first | rfl | (simp; done) | (simp only [← hji62] <;> (first | rfl | (simp; done) | (simp; rw [shl_any]; done) | simp)) | (simp [*]; done)), (by first | rfl | (simp; done) | (simp [*]; done)), H', ⟨by have := HJ4.out; have := HK2.out; omega⟩, by repeat (first | exact Drawn0.refl _ | apply Drawn0.step)⟩
                            · rw [if_neg c61] at H
                              exact absurd H (by simp)
                          · rw [if_neg c59] at H
                            have c59b0 : decide (0 < (IntKind.u64.wrap (t187 + t188))) = false := decide_eq_false c59
                            clear c59
                            by_cases c63 : a0 = 9
                            · rw [if_pos c63] at H
                              have c63b0 : (a0 == 9) = true := beq_iff_eq.mpr c63
                              have c63b1 : (a0 != 9) = false := bne_eq_false_iff_eq.mpr c63
                              clear c63
                              replace H := Option.bind_eq_some_iff.mp H
                              obtain ⟨t196, A640, H⟩ := H
                              replace H : (if 0 ≤ x14_2 then (grommetref03_two.l0 k2 a0 a1 a2 a3 (Go.bits .or .u64 x13_2 (shl .u64 t196 x14_2)) (wrap64 (x14_2 + 1))) else (none)) = some (r1, r2) := H
                              have A64 := Aside0.mk A640
                              clear A640
                              by_cases c65 : 0 ≤ x14_2
                              · rw [if_pos c65] at H
                                have c65b0 := eq_true c65
                                have c65b1 : decide (0 ≤ x14_2) = true := decide_eq_true c65
                                clear c65
                                obtain ⟨ji66, hji66⟩ : ∃ j_ : Int, (shl .u64 t196 x14_2) = j_ := ⟨_, rfl⟩
                                replace H : (grommetref03_two.l0 k2 a0 a1 a2 a3 (Go.bits .or .u64 x13_2 (ji66)) (wrap64 (x14_2 + 1))) = some (r1, r2) := by first | (rw [hji66] at H; exact H) | (simp only [hji66] at H ⊢; exact H)
                                (try rw [hji66] at A32)
                                (try rw [hji66] at A33)
                                (try rw [hji66] at A64)
                                have hji66_ : (IntKind.u64.wrap (t196 * 2 ^ min x14_2.toNat 64)) = ji66 := hji66
                                have hji66z : x14_2 ≤ 64 → (IntKind.u64.wrap (t196 * 2 ^ x14_2.toNat)) = ji66 := shl_small hji66
                                have H' := Aside0.mk H
                                clear H
                                go_wp2_with (first | ((with_reducible refine gate_callee (f := 33) rfl ?_); refine goesL_ (some 101) rfl rfl Tryd.func33 (by kernel_rfl) rfl #[.int .u64 a1, .int .i64 x14_2] rfl (by (try simp only [List.map_toArray, List.map_cons, List.map_nil]); first | done | rfl | (simp only [List.length_drop, List.length_take]; rfl)) ?_; (with_reducible refine (grommetref03_bit.calls a1 x14_2 t187 _ A32.out).mono ?_); rintro e w' ⟨rfl, ⟨nd, rfl⟩⟩; refine ⟨_, rfl, ?_⟩) | ((with_reducible refine gate_callee (f := 33) rfl ?_); refine goesL_ (some 104) rfl rfl Tryd.func33 (by kernel_rfl) rfl #[.int .u64 a2, .int .i64 x14_2] rfl (by (try simp only [List.map_toArray, List.map_cons, List.map_nil]); first | done | rfl | (simp only [List.length_drop, List.length_take]; rfl)) ?_; (with_reducible refine (grommetref03_bit.calls a2 x14_2 t188 _ A33.out).mono ?_); rintro e w' ⟨rfl, ⟨nd, rfl⟩⟩; refine ⟨_, rfl, ?_⟩) | ((with_reducible refine gate_callee (f := 23) rfl ?_); refine goesL_ (some 130) rfl rfl Tryd.func23 (by kernel_rfl) rfl #[.bool ((IntKind.u64.wrap (t187 + t188)) == 1)] rfl (by (try simp only [List.map_toArray, List.map_cons, List.map_nil]); first | done | rfl | (simp only [List.length_drop, List.length_take]; rfl)) ?_; (with_reducible refine (grommetref03_truth.calls ((IntKind.u64.wrap (t187 + t188)) == 1) t196 _ A64.out).mono ?_); rintro e w' ⟨rfl, ⟨nd, rfl⟩⟩; refine ⟨_, rfl, ?_⟩))
                                go_roundg k2
                                case measure => have := HJ4.out; have := HK2.out; omega
                                case rel => exact ⟨(Go.bits .or .u64 x13_2 (ji66)), (wrap64 (x14_2 + 1)), (by first | rfl | (simp; done) | (simp only [← hji66] <;> (first | rfl | (simp; done) | (simp; rw [shl_any]; done) | simp)) | (simp [*]; done)), (by first | rfl | (simp; done) | (simp [*]; done)), H', ⟨by have := HJ4.out; have := HK2.out; omega⟩, by repeat (first | exact Drawn0.refl _ | apply Drawn0.step)⟩
                              · rw [if_neg c65] at H
                                exact absurd H (by simp)
                            · rw [if_neg c63] at H
                              have c63b0 : (a0 == 9) = false := beq_eq_false_iff_ne.mpr c63
                              have c63b1 : (a0 != 9) = true := bne_iff_ne.mpr c63
                              replace H := Option.bind_eq_some_iff.mp H
                              obtain ⟨t197, A670, H⟩ := H
                              replace H : (if 0 ≤ x14_2 then (grommetref03_two.l0 k2 a0 a1 a2 a3 (Go.bits .or .u64 x13_2 (shl .u64 t197 x14_2)) (wrap64 (x14_2 + 1))) else (none)) = some (r1, r2) := H
                              have A67 := Aside0.mk A670
                              clear A670
                              by_cases c68 : 0 ≤ x14_2
                              · rw [if_pos c68] at H
                                have c68b0 := eq_true c68
                                have c68b1 : decide (0 ≤ x14_2) = true := decide_eq_true c68
                                clear c68
                                obtain ⟨ji69, hji69⟩ : ∃ j_ : Int, (shl .u64 t197 x14_2) = j_ := ⟨_, rfl⟩
                                replace H : (grommetref03_two.l0 k2 a0 a1 a2 a3 (Go.bits .or .u64 x13_2 (ji69)) (wrap64 (x14_2 + 1))) = some (r1, r2) := by first | (rw [hji69] at H; exact H) | (simp only [hji69] at H ⊢; exact H)
                                (try rw [hji69] at A32)
                                (try rw [hji69] at A33)
                                (try rw [hji69] at A67)
                                have hji69_ : (IntKind.u64.wrap (t197 * 2 ^ min x14_2.toNat 64)) = ji69 := hji69
                                have hji69z : x14_2 ≤ 64 → (IntKind.u64.wrap (t197 * 2 ^ x14_2.toNat)) = ji69 := shl_small hji69
                                have H' := Aside0.mk H
                                clear H
                                go_wp2_with (first | ((with_reducible refine gate_callee (f := 33) rfl ?_); refine goesL_ (some 101) rfl rfl Tryd.func33 (by kernel_rfl) rfl #[.int .u64 a1, .int .i64 x14_2] rfl (by (try simp only [List.map_toArray, List.map_cons, List.map_nil]); first | done | rfl | (simp only [List.length_drop, List.length_take]; rfl)) ?_; (with_reducible refine (grommetref03_bit.calls a1 x14_2 t187 _ A32.out).mono ?_); rintro e w' ⟨rfl, ⟨nd, rfl⟩⟩; refine ⟨_, rfl, ?_⟩) | ((with_reducible refine gate_callee (f := 33) rfl ?_); refine goesL_ (some 104) rfl rfl Tryd.func33 (by kernel_rfl) rfl #[.int .u64 a2, .int .i64 x14_2] rfl (by (try simp only [List.map_toArray, List.map_cons, List.map_nil]); first | done | rfl | (simp only [List.length_drop, List.length_take]; rfl)) ?_; (with_reducible refine (grommetref03_bit.calls a2 x14_2 t188 _ A33.out).mono ?_); rintro e w' ⟨rfl, ⟨nd, rfl⟩⟩; refine ⟨_, rfl, ?_⟩) | ((with_reducible refine gate_callee (f := 23) rfl ?_); refine goesL_ (some 130) rfl rfl Tryd.func23 (by kernel_rfl) rfl #[.bool false] rfl (by (try simp only [List.map_toArray, List.map_cons, List.map_nil]); first | done | rfl | (simp only [List.length_drop, List.length_take]; rfl)) ?_; (with_reducible refine (grommetref03_truth.calls false t197 _ A67.out).mono ?_); rintro e w' ⟨rfl, ⟨nd, rfl⟩⟩; refine ⟨_, rfl, ?_⟩))
                                go_roundg k2
                                case measure => have := HJ4.out; have := HK2.out; omega
                                case rel => exact ⟨(Go.bits .or .u64 x13_2 (ji69)), (wrap64 (x14_2 + 1)), (by first | rfl | (simp; done) | (simp only [← hji69] <;> (first | rfl | (simp; done) | (simp; rw [shl_any]; done) | simp)) | (simp [*]; done)), (by first | rfl | (simp; done) | (simp [*]; done)), H', ⟨by have := HJ4.out; have := HK2.out; omega⟩, by repeat (first | exact Drawn0.refl _ | apply Drawn0.step)⟩
                              · rw [if_neg c68] at H
                                exact absurd H (by simp)
                        · rw [if_neg c58] at H
                          have c58b0 : (a0 == 8) = false := beq_eq_false_iff_ne.mpr c58
                          have c58b1 : (a0 != 8) = true := bne_iff_ne.mpr c58
                          by_cases c70 : a0 = 9
                          · rw [if_pos c70] at H
                            have c70b0 : (a0 == 9) = true := beq_iff_eq.mpr c70
                            have c70b1 : (a0 != 9) = false := bne_eq_false_iff_eq.mpr c70
                            clear c70
                            replace H := Option.bind_eq_some_iff.mp H
                            obtain ⟨t198, A710, H⟩ := H
                            replace H : (if 0 ≤ x14_2 then (grommetref03_two.l0 k2 a0 a1 a2 a3 (Go.bits .or .u64 x13_2 (shl .u64 t198 x14_2)) (wrap64 (x14_2 + 1))) else (none)) = some (r1, r2) := H
                            have A71 := Aside0.mk A710
                            clear A710
                            by_cases c72 : 0 ≤ x14_2
                            · rw [if_pos c72] at H
                              have c72b0 := eq_true c72
                              have c72b1 : decide (0 ≤ x14_2) = true := decide_eq_true c72
                              clear c72
                              obtain ⟨ji73, hji73⟩ : ∃ j_ : Int, (shl .u64 t198 x14_2) = j_ := ⟨_, rfl⟩
                              replace H : (grommetref03_two.l0 k2 a0 a1 a2 a3 (Go.bits .or .u64 x13_2 (ji73)) (wrap64 (x14_2 + 1))) = some (r1, r2) := by first | (rw [hji73] at H; exact H) | (simp only [hji73] at H ⊢; exact H)
                              (try rw [hji73] at A32)
                              (try rw [hji73] at A33)
                              (try rw [hji73] at A71)
                              have hji73_ : (IntKind.u64.wrap (t198 * 2 ^ min x14_2.toNat 64)) = ji73 := hji73
                              have hji73z : x14_2 ≤ 64 → (IntKind.u64.wrap (t198 * 2 ^ x14_2.toNat)) = ji73 := shl_small hji73
                              have H' := Aside0.mk H
                              clear H
                              go_wp2_with (first | ((with_reducible refine gate_callee (f := 33) rfl ?_); refine goesL_ (some 101) rfl rfl Tryd.func33 (by kernel_rfl) rfl #[.int .u64 a1, .int .i64 x14_2] rfl (by (try simp only [List.map_toArray, List.map_cons, List.map_nil]); first | done | rfl | (simp only [List.length_drop, List.length_take]; rfl)) ?_; (with_reducible refine (grommetref03_bit.calls a1 x14_2 t187 _ A32.out).mono ?_); rintro e w' ⟨rfl, ⟨nd, rfl⟩⟩; refine ⟨_, rfl, ?_⟩) | ((with_reducible refine gate_callee (f := 33) rfl ?_); refine goesL_ (some 104) rfl rfl Tryd.func33 (by kernel_rfl) rfl #[.int .u64 a2, .int .i64 x14_2] rfl (by (try simp only [List.map_toArray, List.map_cons, List.map_nil]); first | done | rfl | (simp only [List.length_drop, List.length_take]; rfl)) ?_; (with_reducible refine (grommetref03_bit.calls a2 x14_2 t188 _ A33.out).mono ?_); rintro e w' ⟨rfl, ⟨nd, rfl⟩⟩; refine ⟨_, rfl, ?_⟩) | ((with_reducible refine gate_callee (f := 23) rfl ?_); refine goesL_ (some 130) rfl rfl Tryd.func23 (by kernel_rfl) rfl #[.bool ((IntKind.u64.wrap (t187 + t188)) == 1)] rfl (by (try simp only [List.map_toArray, List.map_cons, List.map_nil]); first | done | rfl | (simp only [List.length_drop, List.length_take]; rfl)) ?_; (with_reducible refine (grommetref03_truth.calls ((IntKind.u64.wrap (t187 + t188)) == 1) t198 _ A71.out).mono ?_); rintro e w' ⟨rfl, ⟨nd, rfl⟩⟩; refine ⟨_, rfl, ?_⟩))
                              go_roundg k2
                              case measure => have := HJ4.out; have := HK2.out; omega
                              case rel => exact ⟨(Go.bits .or .u64 x13_2 (ji73)), (wrap64 (x14_2 + 1)), (by first | rfl | (simp; done) | (simp only [← hji73] <;> (first | rfl | (simp; done) | (simp; rw [shl_any]; done) | simp)) | (simp [*]; done)), (by first | rfl | (simp; done) | (simp [*]; done)), H', ⟨by have := HJ4.out; have := HK2.out; omega⟩, by repeat (first | exact Drawn0.refl _ | apply Drawn0.step)⟩
                            · rw [if_neg c72] at H
                              exact absurd H (by simp)
                          · rw [if_neg c70] at H
                            have c70b0 : (a0 == 9) = false := beq_eq_false_iff_ne.mpr c70
                            have c70b1 : (a0 != 9) = true := bne_iff_ne.mpr c70
                            replace H := Option.bind_eq_some_iff.mp H
                            obtain ⟨t199, A740, H⟩ := H
                            replace H : (if 0 ≤ x14_2 then (grommetref03_two.l0 k2 a0 a1 a2 a3 (Go.bits .or .u64 x13_2 (shl .u64 t199 x14_2)) (wrap64 (x14_2 + 1))) else (none)) = some (r1, r2) := H
                            have A74 := Aside0.mk A740
                            clear A740
                            by_cases c75 : 0 ≤ x14_2
                            · rw [if_pos c75] at H
                              have c75b0 := eq_true c75
                              have c75b1 : decide (0 ≤ x14_2) = true := decide_eq_true c75
                              clear c75
                              obtain ⟨ji76, hji76⟩ : ∃ j_ : Int, (shl .u64 t199 x14_2) = j_ := ⟨_, rfl⟩
                              replace H : (grommetref03_two.l0 k2 a0 a1 a2 a3 (Go.bits .or .u64 x13_2 (ji76)) (wrap64 (x14_2 + 1))) = some (r1, r2) := by first | (rw [hji76] at H; exact H) | (simp only [hji76] at H ⊢; exact H)
                              (try rw [hji76] at A32)
                              (try rw [hji76] at A33)
                              (try rw [hji76] at A74)
                              have hji76_ : (IntKind.u64.wrap (t199 * 2 ^ min x14_2.toNat 64)) = ji76 := hji76
                              have hji76z : x14_2 ≤ 64 → (IntKind.u64.wrap (t199 * 2 ^ x14_2.toNat)) = ji76 := shl_small hji76
                              have H' := Aside0.mk H
                              clear H
                              go_wp2_with (first | ((with_reducible refine gate_callee (f := 33) rfl ?_); refine goesL_ (some 101) rfl rfl Tryd.func33 (by kernel_rfl) rfl #[.int .u64 a1, .int .i64 x14_2] rfl (by (try simp only [List.map_toArray, List.map_cons, List.map_nil]); first | done | rfl | (simp only [List.length_drop, List.length_take]; rfl)) ?_; (with_reducible refine (grommetref03_bit.calls a1 x14_2 t187 _ A32.out).mono ?_); rintro e w' ⟨rfl, ⟨nd, rfl⟩⟩; refine ⟨_, rfl, ?_⟩) | ((with_reducible refine gate_callee (f := 33) rfl ?_); refine goesL_ (some 104) rfl rfl Tryd.func33 (by kernel_rfl) rfl #[.int .u64 a2, .int .i64 x14_2] rfl (by (try simp only [List.map_toArray, List.map_cons, List.map_nil]); first | done | rfl | (simp only [List.length_drop, List.length_take]; rfl)) ?_; (with_reducible refine (grommetref03_bit.calls a2 x14_2 t188 _ A33.out).mono ?_); rintro e w' ⟨rfl, ⟨nd, rfl⟩⟩; refine ⟨_, rfl, ?_⟩) | ((with_reducible refine gate_callee (f := 23) rfl ?_); refine goesL_ (some 130) rfl rfl Tryd.func23 (by kernel_rfl) rfl #[.bool false] rfl (by (try simp only [List.map_toArray, List.map_cons, List.map_nil]); first | done | rfl | (simp only [List.length_drop, List.length_take]; rfl)) ?_; (with_reducible refine (grommetref03_truth.calls false t199 _ A74.out).mono ?_); rintro e w' ⟨rfl, ⟨nd, rfl⟩⟩; refine ⟨_, rfl, ?_⟩))
                              go_roundg k2
                              case measure => have := HJ4.out; have := HK2.out; omega
                              case rel => exact ⟨(Go.bits .or .u64 x13_2 (ji76)), (wrap64 (x14_2 + 1)), (by first | rfl | (simp; done) | (simp only [← hji76] <;> (first | rfl | (simp; done) | (simp; rw [shl_any]; done) | simp)) | (simp [*]; done)), (by first | rfl | (simp; done) | (simp [*]; done)), H', ⟨by have := HJ4.out; have := HK2.out; omega⟩, by repeat (first | exact Drawn0.refl _ | apply Drawn0.step)⟩
                            · rw [if_neg c75] at H
                              exact absurd H (by simp)
                    · rw [if_neg c31] at H
                      have c31b0 : decide (x14_2 < a3) = false := decide_eq_false c31
                      clear c31
                      simp only [Option.some.injEq, Prod.mk.injEq] at H
                      obtain ⟨rfl, rfl⟩ := H
                      go_wp2
                      go_ret2
                      exact ⟨by first | rfl | (simp; done) | (simp [*]; done), by repeat (first | exact Drawn0.refl _ | apply Drawn0.step)⟩

end Go.Proofs.YtgplakhkofchiaaDoor.RNumEvals
