-- Made by the program wip/patchprint.py (this session's own, over the kit's print)
import Derived.Test.YtgplakhkofchiaaDoorRNumEvalsx0
import Derived.Test.YtgplakhkofchiaaDoorRNumEvalsx5
namespace Go.Proofs.YtgplakhkofchiaaDoor.RNumEvals
open Go.RowKit Go.Proofs.YtgplakhkofchiaaDoor.Man Go.Proofs.YtgplakhkofchiaaDoorW.PrintWords Go.Proofs.YtgplakhkofchiaaDoorW.PrintLast Go.Proofs.YtgplakhkofchiaaDoorW.PrintMore
attribute [local go_sem] max2_int min2_int max_two min_two max_three min_three max_four min_four   -- for this text's walks alone
set_option linter.unusedVariables false
set_option linter.unusedSimpArgs false
set_option linter.unnecessarySimpa false

attribute [local go_sem] err_eql err_neq err_nil_eql err_nil_neq
attribute [local simp] shl_zero
/-! ### grommetref03_shift: function 38 -/
mutual
def grommetref03_shift.l0 : Nat → Int → Int → Int → Int → Int → Int → Option (Int)
  | 0, _, _, _, _, _, _ => none
  | k + 1, x0, x1, x2, x3, x9, x10 => if x10 < x3 then (if x0 = 0 then (grommetref03_shift.j1 k x0 x1 x2 x3 x9 x10 (wrap64 (x10 + x2)) true) else (grommetref03_shift.j1 k x0 x1 x2 x3 x9 x10 (wrap64 (x10 + x2)) (x0 == 3))) else (some x9)
def grommetref03_shift.j1 : Nat → Int → Int → Int → Int → Int → Int → Int → Bool → Option (Int)
  | 0, _, _, _, _, _, _, _, _ => none
  | k + 1, x0, x1, x2, x3, x9, x10, x11, x26 => if x26 = true then (grommetref03_shift.j2 k x0 x1 x2 x3 x9 x10 (wrap64 (x10 - x2))) else (grommetref03_shift.j2 k x0 x1 x2 x3 x9 x10 x11)
def grommetref03_shift.j2 : Nat → Int → Int → Int → Int → Int → Int → Int → Option (Int)
  | 0, _, _, _, _, _, _, _ => none
  | k + 1, x0, x1, x2, x3, x9, x10, x11 => if x0 ≥ 3 then (if x3 = 0 then (none) else (grommetref03_shift.j3 k x0 x1 x2 x3 x9 x10 (Int.tmod (wrap64 (x11 + x3)) x3))) else (grommetref03_shift.j3 k x0 x1 x2 x3 x9 x10 x11)
def grommetref03_shift.j3 : Nat → Int → Int → Int → Int → Int → Int → Int → Option (Int)
  | 0, _, _, _, _, _, _, _ => none
  | k + 1, x0, x1, x2, x3, x9, x10, x11 => if x11 ≥ 0 then (grommetref03_shift.j4 k x0 x1 x2 x3 x9 x10 x11 0 (decide (x11 < x3))) else (grommetref03_shift.j4 k x0 x1 x2 x3 x9 x10 x11 0 false)
def grommetref03_shift.j4 : Nat → Int → Int → Int → Int → Int → Int → Int → Int → Bool → Option (Int)
  | 0, _, _, _, _, _, _, _, _, _ => none
  | k + 1, x0, x1, x2, x3, x9, x10, x11, x12, x43 => if x43 = true then ((grommetref03_bit.f x1 x11).bind fun t176 => (if x0 = 1 then (if x11 ≥ x3 then ((grommetref03_bit.f x1 (wrap64 (x3 - 1))).bind fun t177 => (if 0 ≤ x10 then (grommetref03_shift.l0 k x0 x1 x2 x3 (Go.bits .or .u64 x9 (shl .u64 t177 x10)) (wrap64 (x10 + 1))) else (none))) else (if 0 ≤ x10 then (grommetref03_shift.l0 k x0 x1 x2 x3 (Go.bits .or .u64 x9 (shl .u64 t176 x10)) (wrap64 (x10 + 1))) else (none))) else (if 0 ≤ x10 then (grommetref03_shift.l0 k x0 x1 x2 x3 (Go.bits .or .u64 x9 (shl .u64 t176 x10)) (wrap64 (x10 + 1))) else (none)))) else (if x0 = 1 then (if x11 ≥ x3 then ((grommetref03_bit.f x1 (wrap64 (x3 - 1))).bind fun t178 => (if 0 ≤ x10 then (grommetref03_shift.l0 k x0 x1 x2 x3 (Go.bits .or .u64 x9 (shl .u64 t178 x10)) (wrap64 (x10 + 1))) else (none))) else (if 0 ≤ x10 then (grommetref03_shift.l0 k x0 x1 x2 x3 (Go.bits .or .u64 x9 (shl .u64 x12 x10)) (wrap64 (x10 + 1))) else (none))) else (if 0 ≤ x10 then (grommetref03_shift.l0 k x0 x1 x2 x3 (Go.bits .or .u64 x9 (shl .u64 x12 x10)) (wrap64 (x10 + 1))) else (none)))
end
def grommetref03_shift.f (k : Nat) (a0 : Int) (a1 : Int) (a2 : Int) (a3 : Int) : Option (Int) := grommetref03_shift.l0 k a0 a1 a2 a3 0 0
theorem grommetref03_shift.mono_l : ∀ k, (∀ y0 y1 y2 y3 y4 y5, LeO (grommetref03_shift.l0 k y0 y1 y2 y3 y4 y5) (grommetref03_shift.l0 (k + 1) y0 y1 y2 y3 y4 y5)) ∧ (∀ y0 y1 y2 y3 y4 y5 y6 y7, LeO (grommetref03_shift.j1 k y0 y1 y2 y3 y4 y5 y6 y7) (grommetref03_shift.j1 (k + 1) y0 y1 y2 y3 y4 y5 y6 y7)) ∧ (∀ y0 y1 y2 y3 y4 y5 y6, LeO (grommetref03_shift.j2 k y0 y1 y2 y3 y4 y5 y6) (grommetref03_shift.j2 (k + 1) y0 y1 y2 y3 y4 y5 y6)) ∧ (∀ y0 y1 y2 y3 y4 y5 y6, LeO (grommetref03_shift.j3 k y0 y1 y2 y3 y4 y5 y6) (grommetref03_shift.j3 (k + 1) y0 y1 y2 y3 y4 y5 y6)) ∧ (∀ y0 y1 y2 y3 y4 y5 y6 y7 y8, LeO (grommetref03_shift.j4 k y0 y1 y2 y3 y4 y5 y6 y7 y8) (grommetref03_shift.j4 (k + 1) y0 y1 y2 y3 y4 y5 y6 y7 y8))
  | 0 => ⟨fun _ _ _ _ _ _ r h => by simp [grommetref03_shift.l0] at h, fun _ _ _ _ _ _ _ _ r h => by simp [grommetref03_shift.j1] at h, fun _ _ _ _ _ _ _ r h => by simp [grommetref03_shift.j2] at h, fun _ _ _ _ _ _ _ r h => by simp [grommetref03_shift.j3] at h, fun _ _ _ _ _ _ _ _ _ r h => by simp [grommetref03_shift.j4] at h⟩
  | k + 1 => by
    obtain ⟨ih0, ih1, ih2, ih3, ih4⟩ := grommetref03_shift.mono_l k
    refine ⟨?_, ?_, ?_, ?_, ?_⟩
    · intro y0 y1 y2 y3 y4 y5
      unfold grommetref03_shift.l0
      repeat' first
      | (with_reducible exact ih0 _ _ _ _ _ _)
      | (with_reducible exact ih1 _ _ _ _ _ _ _ _)
      | (with_reducible exact ih2 _ _ _ _ _ _ _)
      | (with_reducible exact ih3 _ _ _ _ _ _ _)
      | (with_reducible exact ih4 _ _ _ _ _ _ _ _ _)
      | (with_reducible exact LeO.refl _)
      | (with_reducible exact LeO.none _)
      | (with_reducible refine LeO.ite ?_ ?_)
      | (with_reducible refine LeO.bind ?_ (fun _ => ?_))
      | exact ih0 _ _ _ _ _ _
      | exact ih1 _ _ _ _ _ _ _ _
      | exact ih2 _ _ _ _ _ _ _
      | exact ih3 _ _ _ _ _ _ _
      | exact ih4 _ _ _ _ _ _ _ _ _
      | exact LeO.none _
      | refine LeO.ite ?_ ?_
      | refine LeO.bind ?_ (fun _ => ?_)
    · intro y0 y1 y2 y3 y4 y5 y6 y7
      unfold grommetref03_shift.j1
      repeat' first
      | (with_reducible exact ih0 _ _ _ _ _ _)
      | (with_reducible exact ih1 _ _ _ _ _ _ _ _)
      | (with_reducible exact ih2 _ _ _ _ _ _ _)
      | (with_reducible exact ih3 _ _ _ _ _ _ _)
      | (with_reducible exact ih4 _ _ _ _ _ _ _ _ _)
      | (with_reducible exact LeO.refl _)
      | (with_reducible exact LeO.none _)
      | (with_reducible refine LeO.ite ?_ ?_)
      | (with_reducible refine LeO.bind ?_ (fun _ => ?_))
      | exact ih0 _ _ _ _ _ _
      | exact ih1 _ _ _ _ _ _ _ _
      | exact ih2 _ _ _ _ _ _ _
      | exact ih3 _ _ _ _ _ _ _
      | exact ih4 _ _ _ _ _ _ _ _ _
      | exact LeO.none _
      | refine LeO.ite ?_ ?_
      | refine LeO.bind ?_ (fun _ => ?_)
    · intro y0 y1 y2 y3 y4 y5 y6
      unfold grommetref03_shift.j2
      repeat' first
      | (with_reducible exact ih0 _ _ _ _ _ _)
      | (with_reducible exact ih1 _ _ _ _ _ _ _ _)
      | (with_reducible exact ih2 _ _ _ _ _ _ _)
      | (with_reducible exact ih3 _ _ _ _ _ _ _)
      | (with_reducible exact ih4 _ _ _ _ _ _ _ _ _)
      | (with_reducible exact LeO.refl _)
      | (with_reducible exact LeO.none _)
      | (with_reducible refine LeO.ite ?_ ?_)
      | (with_reducible refine LeO.bind ?_ (fun _ => ?_))
      | exact ih0 _ _ _ _ _ _
      | exact ih1 _ _ _ _ _ _ _ _
      | exact ih2 _ _ _ _ _ _ _
      | exact ih3 _ _ _ _ _ _ _
      | exact ih4 _ _ _ _ _ _ _ _ _
      | exact LeO.none _
      | refine LeO.ite ?_ ?_
      | refine LeO.bind ?_ (fun _ => ?_)
    · intro y0 y1 y2 y3 y4 y5 y6
      unfold grommetref03_shift.j3
      repeat' first
      | (with_reducible exact ih0 _ _ _ _ _ _)
      | (with_reducible exact ih1 _ _ _ _ _ _ _ _)
      | (with_reducible exact ih2 _ _ _ _ _ _ _)
      | (with_reducible exact ih3 _ _ _ _ _ _ _)
      | (with_reducible exact ih4 _ _ _ _ _ _ _ _ _)
      | (with_reducible exact LeO.refl _)
      | (with_reducible exact LeO.none _)
      | (with_reducible refine LeO.ite ?_ ?_)
      | (with_reducible refine LeO.bind ?_ (fun _ => ?_))
      | exact ih0 _ _ _ _ _ _
      | exact ih1 _ _ _ _ _ _ _ _
      | exact ih2 _ _ _ _ _ _ _
      | exact ih3 _ _ _ _ _ _ _
      | exact ih4 _ _ _ _ _ _ _ _ _
      | exact LeO.none _
      | refine LeO.ite ?_ ?_
      | refine LeO.bind ?_ (fun _ => ?_)
    · intro y0 y1 y2 y3 y4 y5 y6 y7 y8
      unfold grommetref03_shift.j4
      repeat' first
      | (with_reducible exact ih0 _ _ _ _ _ _)
      | (with_reducible exact ih1 _ _ _ _ _ _ _ _)
      | (with_reducible exact ih2 _ _ _ _ _ _ _)
      | (with_reducible exact ih3 _ _ _ _ _ _ _)
      | (with_reducible exact ih4 _ _ _ _ _ _ _ _ _)
      | (with_reducible exact LeO.refl _)
      | (with_reducible exact LeO.none _)
      | (with_reducible refine LeO.ite ?_ ?_)
      | (with_reducible refine LeO.bind ?_ (fun _ => ?_))
      | exact ih0 _ _ _ _ _ _
      | exact ih1 _ _ _ _ _ _ _ _
      | exact ih2 _ _ _ _ _ _ _
      | exact ih3 _ _ _ _ _ _ _
      | exact ih4 _ _ _ _ _ _ _ _ _
      | exact LeO.none _
      | refine LeO.ite ?_ ?_
      | refine LeO.bind ?_ (fun _ => ?_)
theorem grommetref03_shift.mono : ∀ a0 a1 a2 a3 k, LeO (grommetref03_shift.f k a0 a1 a2 a3) (grommetref03_shift.f (k + 1) a0 a1 a2 a3) := by
  intro a0 a1 a2 a3 k
  obtain ⟨ih0, ih1, ih2, ih3, ih4⟩ := grommetref03_shift.mono_l k
  unfold grommetref03_shift.f
  repeat' first
      | (with_reducible exact ih0 _ _ _ _ _ _)
      | (with_reducible exact ih1 _ _ _ _ _ _ _ _)
      | (with_reducible exact ih2 _ _ _ _ _ _ _)
      | (with_reducible exact ih3 _ _ _ _ _ _ _)
      | (with_reducible exact ih4 _ _ _ _ _ _ _ _ _)
      | (with_reducible exact LeO.refl _)
      | (with_reducible exact LeO.none _)
      | (with_reducible refine LeO.ite ?_ ?_)
      | (with_reducible refine LeO.bind ?_ (fun _ => ?_))
      | exact ih0 _ _ _ _ _ _
      | exact ih1 _ _ _ _ _ _ _ _
      | exact ih2 _ _ _ _ _ _ _
      | exact ih3 _ _ _ _ _ _ _
      | exact ih4 _ _ _ _ _ _ _ _ _
      | exact LeO.none _
      | refine LeO.ite ?_ ?_
      | refine LeO.bind ?_ (fun _ => ?_)
set_option maxHeartbeats 8000000 in
set_option maxRecDepth 100000 in
theorem grommetref03_shift.calls (k : Nat) (a0 : Int) (a1 : Int) (a2 : Int) (a3 : Int) (r : Int) (w : World) (h : grommetref03_shift.f k a0 a1 a2 a3 = some r) :
    Calls Tryd.prog 38 #[.int .i64 a0, .int .u64 a1, .int .i64 a2, .int .i64 a3] w fun e w' => e = .returned (.int .u64 r) ∧ Drawn0 w w' := by
  have H : (grommetref03_shift.l0 k a0 a1 a2 a3 0 0) = some r := h
  clear h
  have H' := Aside0.mk H
  clear H
  go_enter Tryd.func38, Tryd.ntmps38
  go_wp2
  go_loopg [9, 10] k (fun kq v9 v10 w' => ∃ (x9_1 : Int) (x10_1 : Int), v9 = .int .u64 x9_1 ∧ v10 = .int .i64 x10_1 ∧ Aside0 (grommetref03_shift.l0 kq a0 a1 a2 a3 x9_1 x10_1 = some r) ∧ Aside0 (kq ≤ k) ∧ Drawn0 w w')
  case atStart => exact ⟨(0), (0), (by first | rfl | (simp; done) | (simp [*]; done)), (by first | rfl | (simp; done) | (simp [*]; done)), H', ⟨Nat.le_refl _⟩, by repeat (first | exact Drawn0.refl _ | apply Drawn0.step)⟩
  case round =>
    clear H'
    try clear p2
    try clear c3
    obtain ⟨x9_1, x10_1, rfl, rfl, HA, HK1, ⟨m1, rfl⟩⟩ := hrel
    cases gk with
    | zero => exact absurd HA.out (by simp [grommetref03_shift.l0])
    | succ k1 =>
      have H := HA.out
      clear HA
      simp only [grommetref03_shift.l0] at H
      by_cases c5 : x10_1 < a3
      · rw [if_pos c5] at H
        have c5b0 : decide (x10_1 < a3) = true := decide_eq_true c5
        clear c5
        have HC6 := Aside0.mk H
        clear H
        go_upto_region 6 with (fail)
        go_cut [26] (fun v26 wc => ∃ (kq : Nat) (x26_5 : Bool), v26 = .bool x26_5 ∧ Aside0 (grommetref03_shift.j1 kq a0 a1 a2 a3 x9_1 x10_1 (wrap64 (x10_1 + a2)) x26_5 = some r) ∧ Aside0 (kq ≤ k1) ∧ Drawn0 w wc)
        case first =>
          have H := HC6.out
          clear HC6
          by_cases c7 : a0 = 0
          · rw [if_pos c7] at H
            have c7b0 : (a0 == 0) = true := beq_iff_eq.mpr c7
            have c7b1 : (a0 != 0) = false := bne_eq_false_iff_eq.mpr c7
            clear c7
            (first | rw [c7b0] | (simp only [i64_w, i32_w]; rw [c7b0]) | skip)
            have H' := Aside0.mk H
            clear H
            go_wp2
            go_meet
            case rel => exact ⟨_, (true), (by first | rfl | (simp; done) | (simp [*]; done)), H', ⟨by have := HK1.out; first | omega | exact Nat.le_refl _⟩, by repeat (first | exact Drawn0.refl _ | apply Drawn0.step)⟩
          · rw [if_neg c7] at H
            have c7b0 : (a0 == 0) = false := beq_eq_false_iff_ne.mpr c7
            have c7b1 : (a0 != 0) = true := bne_iff_ne.mpr c7
            (first | rw [c7b0] | (simp only [i64_w, i32_w]; rw [c7b0]) | skip)
            have H' := Aside0.mk H
            clear H
            go_wp2
            go_meet
            case rel => exact ⟨_, ((a0 == 3)), (by first | rfl | (simp; done) | (simp [*]; done)), H', ⟨by have := HK1.out; first | omega | exact Nat.le_refl _⟩, by repeat (first | exact Drawn0.refl _ | apply Drawn0.step)⟩
        case rest =>
          clear HC6
          try clear p2
          try clear c3
          try clear c5
          try clear c5b0
          try clear p6
          try clear c7
          try clear c7b0
          try clear c7b1
          try clear p2
          obtain ⟨kq, x26_5, rfl, HA, HJ5, ⟨mc5, rfl⟩⟩ := hcut
          cases kq with
          | zero => exact absurd HA.out (by simp [grommetref03_shift.j1])
          | succ kj5 =>
            have H := HA.out
            clear HA
            simp only [grommetref03_shift.j1] at H
            have HC8 := Aside0.mk H
            clear H
            go_upto_if 26 with (fail)
            go_cut [11] (fun v11 wc => ∃ (kq : Nat) (x11_7 : Int), v11 = .int .i64 x11_7 ∧ Aside0 (grommetref03_shift.j2 kq a0 a1 a2 a3 x9_1 x10_1 x11_7 = some r) ∧ Aside0 (kq ≤ kj5) ∧ Drawn0 w wc)
            case first =>
              have H := HC8.out
              clear HC8
              by_cases c9 : x26_5 = true
              · subst c9
                have H1 : (grommetref03_shift.j2 kj5 a0 a1 a2 a3 x9_1 x10_1 (wrap64 (x10_1 - a2))) = some r := by rw [if_pos rfl] at H; exact H
                clear H
                have H := H1
                clear H1
                have H' := Aside0.mk H
                clear H
                go_wp2
                go_meet
                case rel => exact ⟨_, (wrap64 (x10_1 - a2)), (by first | rfl | (simp; done) | (simp [*]; done)), H', ⟨by have := HK1.out; have := HJ5.out; first | omega | exact Nat.le_refl _⟩, by repeat (first | exact Drawn0.refl _ | apply Drawn0.step)⟩
              · replace c9 := Bool.eq_false_iff.mpr c9
                subst c9
                have H1 : (grommetref03_shift.j2 kj5 a0 a1 a2 a3 x9_1 x10_1 (wrap64 (x10_1 + a2))) = some r := by rw [if_neg (show ¬ (false = true) by decide)] at H; exact H
                clear H
                have H := H1
                clear H1
                have H' := Aside0.mk H
                clear H
                go_wp2
                go_meet
                case rel => exact ⟨_, ((wrap64 (x10_1 + a2))), (by first | rfl | (simp; done) | (simp [*]; done)), H', ⟨by have := HK1.out; have := HJ5.out; first | omega | exact Nat.le_refl _⟩, by repeat (first | exact Drawn0.refl _ | apply Drawn0.step)⟩
            case rest =>
              clear HC8
              try clear p2
              try clear c3
              try clear c5
              try clear c5b0
              try clear p6
              try clear c7
              try clear c7b0
              try clear c7b1
              try clear c9
              try clear p2
              try clear p6
              obtain ⟨kq, x11_7, rfl, HA, HJ7, ⟨mc7, rfl⟩⟩ := hcut
              cases kq with
              | zero => exact absurd HA.out (by simp [grommetref03_shift.j2])
              | succ kj7 =>
                have H := HA.out
                clear HA
                simp only [grommetref03_shift.j2] at H
                have HC10 := Aside0.mk H
                clear H
                go_upto_if 31 with (fail)
                go_cut [11] (fun v11 wc => ∃ (kq : Nat) (x11_9 : Int), v11 = .int .i64 x11_9 ∧ Aside0 (grommetref03_shift.j3 kq a0 a1 a2 a3 x9_1 x10_1 x11_9 = some r) ∧ Aside0 (kq ≤ kj7) ∧ Drawn0 w wc)
                case first =>
                  have H := HC10.out
                  clear HC10
                  by_cases c11 : a0 ≥ 3
                  · rw [if_pos c11] at H
                    have c11b0 : decide (3 ≤ a0) = true := decide_eq_true c11
                    clear c11
                    (first | rw [c11b0] | (simp only [i64_w, i32_w]; rw [c11b0]) | skip)
                    by_cases c12 : a3 = 0
                    · rw [if_pos c12] at H
                      exact absurd H (by simp)
                    · rw [if_neg c12] at H
                      have c12b0 : (a3 == 0) = false := beq_eq_false_iff_ne.mpr c12
                      have c12b1 : (a3 != 0) = true := bne_iff_ne.mpr c12
                      have H' := Aside0.mk H
                      clear H
                      go_wp2
                      go_meet
                      case rel => exact ⟨_, (Int.tmod (wrap64 (x11_7 + a3)) a3), (by first | rfl | (simp; done) | (simp [*]; done)), H', ⟨by have := HK1.out; have := HJ5.out; have := HJ7.out; first | omega | exact Nat.le_refl _⟩, by repeat (first | exact Drawn0.refl _ | apply Drawn0.step)⟩
                  · rw [if_neg c11] at H
                    have c11b0 : decide (3 ≤ a0) = false := decide_eq_false c11
                    clear c11
                    (first | rw [c11b0] | (simp only [i64_w, i32_w]; rw [c11b0]) | skip)
                    have H' := Aside0.mk H
                    clear H
                    go_wp2
                    go_meet
                    case rel => exact ⟨_, (x11_7), (by first | rfl | (simp; done) | (simp [*]; done)), H', ⟨by have := HK1.out; have := HJ5.out; have := HJ7.out; first | omega | exact Nat.le_refl _⟩, by repeat (first | exact Drawn0.refl _ | apply Drawn0.step)⟩
                case rest =>
                  clear HC10
                  try clear c1
                  try clear p2
                  try clear c3
                  try clear c5
                  try clear c5b0
                  try clear p6
                  try clear c7
                  try clear c7b0
                  try clear c7b1
                  try clear c9
                  try clear c11
                  try clear c11b0
                  try clear c12
                  try clear c12b0
                  try clear c12b1
                  try clear p2
                  try clear p6
                  obtain ⟨kq, x11_9, rfl, HA, HJ9, ⟨mc9, rfl⟩⟩ := hcut
                  cases kq with
                  | zero => exact absurd HA.out (by simp [grommetref03_shift.j3])
                  | succ kj9 =>
                    have H := HA.out
                    clear HA
                    simp only [grommetref03_shift.j3] at H
                    have HC13 := Aside0.mk H
                    clear H
                    go_upto_region 11 with (fail)
                    go_cut [43] (fun v43 wc => ∃ (kq : Nat) (x43_12 : Bool), v43 = .bool x43_12 ∧ Aside0 (grommetref03_shift.j4 kq a0 a1 a2 a3 x9_1 x10_1 x11_9 0 x43_12 = some r) ∧ Aside0 (kq ≤ kj9) ∧ Drawn0 w wc)
                    case first =>
                      have H := HC13.out
                      clear HC13
                      by_cases c14 : x11_9 ≥ 0
                      · rw [if_pos c14] at H
                        have c14b0 : decide (0 ≤ x11_9) = true := decide_eq_true c14
                        clear c14
                        (first | rw [c14b0] | (simp only [i64_w, i32_w]; rw [c14b0]) | skip)
                        have H' := Aside0.mk H
                        clear H
                        go_wp2
                        go_meet
                        case rel => exact ⟨_, (decide (x11_9 < a3)), (by first | rfl | (simp; done) | (simp [*]; done)), H', ⟨by have := HK1.out; have := HJ5.out; have := HJ7.out; have := HJ9.out; first | omega | exact Nat.le_refl _⟩, by repeat (first | exact Drawn0.refl _ | apply Drawn0.step)⟩
                      · rw [if_neg c14] at H
                        have c14b0 : decide (0 ≤ x11_9) = false := decide_eq_false c14
                        clear c14
                        (first | rw [c14b0] | (simp only [i64_w, i32_w]; rw [c14b0]) | skip)
                        have H' := Aside0.mk H
                        clear H
                        go_wp2
                        go_meet
                        case rel => exact ⟨_, (false), (by first | rfl | (simp; done) | (simp [*]; done)), H', ⟨by have := HK1.out; have := HJ5.out; have := HJ7.out; have := HJ9.out; first | omega | exact Nat.le_refl _⟩, by repeat (first | exact Drawn0.refl _ | apply Drawn0.step)⟩
                    case rest =>
                      clear HC13
                      try clear c1
                      try clear p2
                      try clear c3
                      try clear c5
                      try clear c5b0
                      try clear p6
                      try clear c7
                      try clear c7b0
                      try clear c7b1
                      try clear c9
                      try clear c11
                      try clear c11b0
                      try clear c12
                      try clear c12b0
                      try clear c12b1
                      try clear c14
                      try clear c14b0
                      try clear p2
                      try clear p6
                      obtain ⟨kq, x43_12, rfl, HA, HJ12, ⟨mc12, rfl⟩⟩ := hcut
                      cases kq with
                      | zero => exact absurd HA.out (by simp [grommetref03_shift.j4])
                      | succ kj12 =>
                        have H := HA.out
                        clear HA
                        simp only [grommetref03_shift.j4] at H
                        by_cases c15 : x43_12 = true
                        · subst c15
                          have H1 : ((grommetref03_bit.f a1 x11_9).bind fun t176 => (if a0 = 1 then (if x11_9 ≥ a3 then ((grommetref03_bit.f a1 (wrap64 (a3 - 1))).bind fun t177 => (if 0 ≤ x10_1 then (grommetref03_shift.l0 kj12 a0 a1 a2 a3 (Go.bits .or .u64 x9_1 (shl .u64 t177 x10_1)) (wrap64 (x10_1 + 1))) else (none))) else (if 0 ≤ x10_1 then (grommetref03_shift.l0 kj12 a0 a1 a2 a3 (Go.bits .or .u64 x9_1 (shl .u64 t176 x10_1)) (wrap64 (x10_1 + 1))) else (none))) else (if 0 ≤ x10_1 then (grommetref03_shift.l0 kj12 a0 a1 a2 a3 (Go.bits .or .u64 x9_1 (shl .u64 t176 x10_1)) (wrap64 (x10_1 + 1))) else (none)))) = some r := by rw [if_pos rfl] at H; exact H
                          clear H
                          have H := H1
                          clear H1
                          replace H := Option.bind_eq_some_iff.mp H
                          obtain ⟨t176, A160, H⟩ := H
                          replace H : (if a0 = 1 then (if x11_9 ≥ a3 then ((grommetref03_bit.f a1 (wrap64 (a3 - 1))).bind fun t177 => (if 0 ≤ x10_1 then (grommetref03_shift.l0 kj12 a0 a1 a2 a3 (Go.bits .or .u64 x9_1 (shl .u64 t177 x10_1)) (wrap64 (x10_1 + 1))) else (none))) else (if 0 ≤ x10_1 then (grommetref03_shift.l0 kj12 a0 a1 a2 a3 (Go.bits .or .u64 x9_1 (shl .u64 t176 x10_1)) (wrap64 (x10_1 + 1))) else (none))) else (if 0 ≤ x10_1 then (grommetref03_shift.l0 kj12 a0 a1 a2 a3 (Go.bits .or .u64 x9_1 (shl .u64 t176 x10_1)) (wrap64 (x10_1 + 1))) else (none))) = some r := H
                          have A16 := Aside0.mk A160
                          clear A160
                          by_cases c17 : a0 = 1
                          · rw [if_pos c17] at H
                            have c17b0 : (a0 == 1) = true := beq_iff_eq.mpr c17
                            have c17b1 : (a0 != 1) = false := bne_eq_false_iff_eq.mpr c17
                            clear c17
                            by_cases c18 : x11_9 ≥ a3
                            · rw [if_pos c18] at H
                              have c18b0 : decide (a3 ≤ x11_9) = true := decide_eq_true c18
                              clear c18
                              replace H := Option.bind_eq_some_iff.mp H
                              obtain ⟨t177, A190, H⟩ := H
                              replace H : (if 0 ≤ x10_1 then (grommetref03_shift.l0 kj12 a0 a1 a2 a3 (Go.bits .or .u64 x9_1 (shl .u64 t177 x10_1)) (wrap64 (x10_1 + 1))) else (none)) = some r := H
                              have A19 := Aside0.mk A190
                              clear A190
                              by_cases c20 : 0 ≤ x10_1
                              · rw [if_pos c20] at H
                                have c20b0 := eq_true c20
                                have c20b1 : decide (0 ≤ x10_1) = true := decide_eq_true c20
                                clear c20
                                obtain ⟨ji21, hji21⟩ : ∃ j_ : Int, (shl .u64 t177 x10_1) = j_ := ⟨_, rfl⟩
                                replace H : (grommetref03_shift.l0 kj12 a0 a1 a2 a3 (Go.bits .or .u64 x9_1 (ji21)) (wrap64 (x10_1 + 1))) = some r := by first | (rw [hji21] at H; exact H) | (simp only [hji21] at H ⊢; exact H)
                                (try rw [hji21] at A16)
                                (try rw [hji21] at A19)
                                have hji21_ : (IntKind.u64.wrap (t177 * 2 ^ min x10_1.toNat 64)) = ji21 := hji21
                                have hji21z : x10_1 ≤ 64 → (IntKind.u64.wrap (t177 * 2 ^ x10_1.toNat)) = ji21 := shl_small hji21
                                have H' := Aside0.mk H
                                clear H
                                go_wp2_with (first | ((with_reducible refine gate_callee (f := 33) rfl ?_); refine goesL_ (some 46) rfl rfl Tryd.func33 (by kernel_rfl) rfl #[.int .u64 a1, .int .i64 x11_9] rfl (by (try simp only [List.map_toArray, List.map_cons, List.map_nil]); first | done | rfl | (simp only [List.length_drop, List.length_take]; rfl)) ?_; (with_reducible refine (grommetref03_bit.calls a1 x11_9 t176 _ A16.out).mono ?_); rintro e w' ⟨rfl, ⟨nd, rfl⟩⟩; refine ⟨_, rfl, ?_⟩) | ((with_reducible refine gate_callee (f := 33) rfl ?_); refine goesL_ (some 57) rfl rfl Tryd.func33 (by kernel_rfl) rfl #[.int .u64 a1, .int .i64 (wrap64 (a3 - 1))] rfl (by (try simp only [List.map_toArray, List.map_cons, List.map_nil]); first | done | rfl | (simp only [List.length_drop, List.length_take]; rfl)) ?_; (with_reducible refine (grommetref03_bit.calls a1 (wrap64 (a3 - 1)) t177 _ A19.out).mono ?_); rintro e w' ⟨rfl, ⟨nd, rfl⟩⟩; refine ⟨_, rfl, ?_⟩))
                                go_roundg kj12
                                case measure => have := HK1.out; have := HJ5.out; have := HJ7.out; have := HJ9.out; have := HJ12.out; omega
                                case rel => exact ⟨(Go.bits .or .u64 x9_1 (ji21)), (wrap64 (x10_1 + 1)), (by first | rfl | (simp; done) | (simp only [← hji21] <;> (first | rfl | simp)) | (simp [*]; done)), (by first | rfl | (simp; done) | (simp [*]; done)), H', ⟨by have := HK1.out; have := HJ5.out; have := HJ7.out; have := HJ9.out; have := HJ12.out; omega⟩, by repeat (first | exact Drawn0.refl _ | apply Drawn0.step)⟩
                              · rw [if_neg c20] at H
                                exact absurd H (by simp)
                            · rw [if_neg c18] at H
                              have c18b0 : decide (a3 ≤ x11_9) = false := decide_eq_false c18
                              clear c18
                              by_cases c22 : 0 ≤ x10_1
                              · rw [if_pos c22] at H
                                have c22b0 := eq_true c22
                                have c22b1 : decide (0 ≤ x10_1) = true := decide_eq_true c22
                                clear c22
                                obtain ⟨ji23, hji23⟩ : ∃ j_ : Int, (shl .u64 t176 x10_1) = j_ := ⟨_, rfl⟩
                                replace H : (grommetref03_shift.l0 kj12 a0 a1 a2 a3 (Go.bits .or .u64 x9_1 (ji23)) (wrap64 (x10_1 + 1))) = some r := by first | (rw [hji23] at H; exact H) | (simp only [hji23] at H ⊢; exact H)
                                (try rw [hji23] at A16)
                                have hji23_ : (IntKind.u64.wrap (t176 * 2 ^ min x10_1.toNat 64)) = ji23 := hji23
                                have hji23z : x10_1 ≤ 64 → (IntKind.u64.wrap (t176 * 2 ^ x10_1.toNat)) = ji23 := shl_small hji23
                                have H' := Aside0.mk H
                                clear H
                                go_wp2_with (first | ((with_reducible refine gate_callee (f := 33) rfl ?_); refine goesL_ (some 46) rfl rfl Tryd.func33 (by kernel_rfl) rfl #[.int .u64 a1, .int .i64 x11_9] rfl (by (try simp only [List.map_toArray, List.map_cons, List.map_nil]); first | done | rfl | (simp only [List.length_drop, List.length_take]; rfl)) ?_; (with_reducible refine (grommetref03_bit.calls a1 x11_9 t176 _ A16.out).mono ?_); rintro e w' ⟨rfl, ⟨nd, rfl⟩⟩; refine ⟨_, rfl, ?_⟩))
                                go_roundg kj12
                                case measure => have := HK1.out; have := HJ5.out; have := HJ7.out; have := HJ9.out; have := HJ12.out; omega
                                case rel => exact ⟨(Go.bits .or .u64 x9_1 (ji23)), (wrap64 (x10_1 + 1)), (by first | rfl | (simp; done) | (simp only [← hji23] <;> (first | rfl | simp)) | (simp [*]; done)), (by first | rfl | (simp; done) | (simp [*]; done)), H', ⟨by have := HK1.out; have := HJ5.out; have := HJ7.out; have := HJ9.out; have := HJ12.out; omega⟩, by repeat (first | exact Drawn0.refl _ | apply Drawn0.step)⟩
                              · rw [if_neg c22] at H
                                exact absurd H (by simp)
                          · rw [if_neg c17] at H
                            have c17b0 : (a0 == 1) = false := beq_eq_false_iff_ne.mpr c17
                            have c17b1 : (a0 != 1) = true := bne_iff_ne.mpr c17
                            by_cases c24 : 0 ≤ x10_1
                            · rw [if_pos c24] at H
                              have c24b0 := eq_true c24
                              have c24b1 : decide (0 ≤ x10_1) = true := decide_eq_true c24
                              clear c24
                              obtain ⟨ji25, hji25⟩ : ∃ j_ : Int, (shl .u64 t176 x10_1) = j_ := ⟨_, rfl⟩
                              replace H : (grommetref03_shift.l0 kj12 a0 a1 a2 a3 (Go.bits .or .u64 x9_1 (ji25)) (wrap64 (x10_1 + 1))) = some r := by first | (rw [hji25] at H; exact H) | (simp only [hji25] at H ⊢; exact H)
                              (try rw [hji25] at A16)
                              have hji25_ : (IntKind.u64.wrap (t176 * 2 ^ min x10_1.toNat 64)) = ji25 := hji25
                              have hji25z : x10_1 ≤ 64 → (IntKind.u64.wrap (t176 * 2 ^ x10_1.toNat)) = ji25 := shl_small hji25
                              have H' := Aside0.mk H
                              clear H
                              go_wp2_with (first | ((with_reducible refine gate_callee (f := 33) rfl ?_); refine goesL_ (some 46) rfl rfl Tryd.func33 (by kernel_rfl) rfl #[.int .u64 a1, .int .i64 x11_9] rfl (by (try simp only [List.map_toArray, List.map_cons, List.map_nil]); first | done | rfl | (simp only [List.length_drop, List.length_take]; rfl)) ?_; (with_reducible refine (grommetref03_bit.calls a1 x11_9 t176 _ A16.out).mono ?_); rintro e w' ⟨rfl, ⟨nd, rfl⟩⟩; refine ⟨_, rfl, ?_⟩))
                              go_roundg kj12
                              case measure => have := HK1.out; have := HJ5.out; have := HJ7.out; have := HJ9.out; have := HJ12.out; omega
                              case rel => exact ⟨(Go.bits .or .u64 x9_1 (ji25)), (wrap64 (x10_1 + 1)), (by first | rfl | (simp; done) | (simp only [← hji25] <;> (first | rfl | simp)) | (simp [*]; done)), (by first | rfl | (simp; done) | (simp [*]; done)), H', ⟨by have := HK1.out; have := HJ5.out; have := HJ7.out; have := HJ9.out; have := HJ12.out; omega⟩, by repeat (first | exact Drawn0.refl _ | apply Drawn0.step)⟩
                            · rw [if_neg c24] at H
                              exact absurd H (by simp)
                        · replace c15 := Bool.eq_false_iff.mpr c15
                          subst c15
                          have H1 : (if a0 = 1 then (if x11_9 ≥ a3 then ((grommetref03_bit.f a1 (wrap64 (a3 - 1))).bind fun t178 => (if 0 ≤ x10_1 then (grommetref03_shift.l0 kj12 a0 a1 a2 a3 (Go.bits .or .u64 x9_1 (shl .u64 t178 x10_1)) (wrap64 (x10_1 + 1))) else (none))) else (if 0 ≤ x10_1 then (grommetref03_shift.l0 kj12 a0 a1 a2 a3 (Go.bits .or .u64 x9_1 (shl .u64 0 x10_1)) (wrap64 (x10_1 + 1))) else (none))) else (if 0 ≤ x10_1 then (grommetref03_shift.l0 kj12 a0 a1 a2 a3 (Go.bits .or .u64 x9_1 (shl .u64 0 x10_1)) (wrap64 (x10_1 + 1))) else (none))) = some r := by rw [if_neg (show ¬ (false = true) by decide)] at H; exact H
                          clear H
                          have H := H1
                          clear H1
                          by_cases c26 : a0 = 1
                          · rw [if_pos c26] at H
                            have c26b0 : (a0 == 1) = true := beq_iff_eq.mpr c26
                            have c26b1 : (a0 != 1) = false := bne_eq_false_iff_eq.mpr c26
                            clear c26
                            by_cases c27 : x11_9 ≥ a3
                            · rw [if_pos c27] at H
                              have c27b0 : decide (a3 ≤ x11_9) = true := decide_eq_true c27
                              clear c27
                              replace H := Option.bind_eq_some_iff.mp H
                              obtain ⟨t178, A280, H⟩ := H
                              replace H : (if 0 ≤ x10_1 then (grommetref03_shift.l0 kj12 a0 a1 a2 a3 (Go.bits .or .u64 x9_1 (shl .u64 t178 x10_1)) (wrap64 (x10_1 + 1))) else (none)) = some r := H
                              have A28 := Aside0.mk A280
                              clear A280
                              by_cases c29 : 0 ≤ x10_1
                              · rw [if_pos c29] at H
                                have c29b0 := eq_true c29
                                have c29b1 : decide (0 ≤ x10_1) = true := decide_eq_true c29
                                clear c29
                                obtain ⟨ji30, hji30⟩ : ∃ j_ : Int, (shl .u64 t178 x10_1) = j_ := ⟨_, rfl⟩
                                replace H : (grommetref03_shift.l0 kj12 a0 a1 a2 a3 (Go.bits .or .u64 x9_1 (ji30)) (wrap64 (x10_1 + 1))) = some r := by first | (rw [hji30] at H; exact H) | (simp only [hji30] at H ⊢; exact H)
                                (try rw [hji30] at A28)
                                have hji30_ : (IntKind.u64.wrap (t178 * 2 ^ min x10_1.toNat 64)) = ji30 := hji30
                                have hji30z : x10_1 ≤ 64 → (IntKind.u64.wrap (t178 * 2 ^ x10_1.toNat)) = ji30 := shl_small hji30
                                have H' := Aside0.mk H
                                clear H
                                go_wp2_with (first | ((with_reducible refine gate_callee (f := 33) rfl ?_); refine goesL_ (some 57) rfl rfl Tryd.func33 (by kernel_rfl) rfl #[.int .u64 a1, .int .i64 (wrap64 (a3 - 1))] rfl (by (try simp only [List.map_toArray, List.map_cons, List.map_nil]); first | done | rfl | (simp only [List.length_drop, List.length_take]; rfl)) ?_; (with_reducible refine (grommetref03_bit.calls a1 (wrap64 (a3 - 1)) t178 _ A28.out).mono ?_); rintro e w' ⟨rfl, ⟨nd, rfl⟩⟩; refine ⟨_, rfl, ?_⟩))
                                go_roundg kj12
                                case measure => have := HK1.out; have := HJ5.out; have := HJ7.out; have := HJ9.out; have := HJ12.out; omega
                                case rel => exact ⟨(Go.bits .or .u64 x9_1 (ji30)), (wrap64 (x10_1 + 1)), (by first | rfl | (simp; done) | (simp only [← hji30] <;> (first | rfl | simp)) | (simp [*]; done)), (by first | rfl | (simp; done) | (simp [*]; done)), H', ⟨by have := HK1.out; have := HJ5.out; have := HJ7.out; have := HJ9.out; have := HJ12.out; omega⟩, by repeat (first | exact Drawn0.refl _ | apply Drawn0.step)⟩
                              · rw [if_neg c29] at H
                                exact absurd H (by simp)
                            · rw [if_neg c27] at H
                              have c27b0 : decide (a3 ≤ x11_9) = false := decide_eq_false c27
                              clear c27
                              by_cases c31 : 0 ≤ x10_1
                              · rw [if_pos c31] at H
                                have c31b0 := eq_true c31
                                have c31b1 : decide (0 ≤ x10_1) = true := decide_eq_true c31
                                clear c31
                                obtain ⟨ji32, hji32⟩ : ∃ j_ : Int, (shl .u64 0 x10_1) = j_ := ⟨_, rfl⟩
                                replace H : (grommetref03_shift.l0 kj12 a0 a1 a2 a3 (Go.bits .or .u64 x9_1 (ji32)) (wrap64 (x10_1 + 1))) = some r := by first | (rw [hji32] at H; exact H) | (simp only [hji32] at H ⊢; exact H)
                                have hji32_ : (IntKind.u64.wrap (0 * 2 ^ min x10_1.toNat 64)) = ji32 := hji32
                                have hji32z : x10_1 ≤ 64 → (IntKind.u64.wrap (0 * 2 ^ x10_1.toNat)) = ji32 := shl_small hji32
                                have H' := Aside0.mk H
                                clear H
                                go_wp2
                                go_roundg kj12
                                case measure => have := HK1.out; have := HJ5.out; have := HJ7.out; have := HJ9.out; have := HJ12.out; omega
                                case rel => exact ⟨(Go.bits .or .u64 x9_1 (ji32)), (wrap64 (x10_1 + 1)), (by first | rfl | (simp; done) | (simp only [← hji32] <;> (first | rfl | simp)) | (simp [*]; done)), (by first | rfl | (simp; done) | (simp [*]; done)), H', ⟨by have := HK1.out; have := HJ5.out; have := HJ7.out; have := HJ9.out; have := HJ12.out; omega⟩, by repeat (first | exact Drawn0.refl _ | apply Drawn0.step)⟩
                              · rw [if_neg c31] at H
                                exact absurd H (by simp)
                          · rw [if_neg c26] at H
                            have c26b0 : (a0 == 1) = false := beq_eq_false_iff_ne.mpr c26
                            have c26b1 : (a0 != 1) = true := bne_iff_ne.mpr c26
                            by_cases c33 : 0 ≤ x10_1
                            · rw [if_pos c33] at H
                              have c33b0 := eq_true c33
                              have c33b1 : decide (0 ≤ x10_1) = true := decide_eq_true c33
                              clear c33
                              obtain ⟨ji34, hji34⟩ : ∃ j_ : Int, (shl .u64 0 x10_1) = j_ := ⟨_, rfl⟩
                              replace H : (grommetref03_shift.l0 kj12 a0 a1 a2 a3 (Go.bits .or .u64 x9_1 (ji34)) (wrap64 (x10_1 + 1))) = some r := by first | (rw [hji34] at H; exact H) | (simp only [hji34] at H ⊢; exact H)
                              have hji34_ : (IntKind.u64.wrap (0 * 2 ^ min x10_1.toNat 64)) = ji34 := hji34
                              have hji34z : x10_1 ≤ 64 → (IntKind.u64.wrap (0 * 2 ^ x10_1.toNat)) = ji34 := shl_small hji34
                              have H' := Aside0.mk H
                              clear H
                              go_wp2
                              go_roundg kj12
                              case measure => have := HK1.out; have := HJ5.out; have := HJ7.out; have := HJ9.out; have := HJ12.out; omega
                              case rel => exact ⟨(Go.bits .or .u64 x9_1 (ji34)), (wrap64 (x10_1 + 1)), (by first | rfl | (simp; done) | (simp only [← hji34] <;> (first | rfl | simp)) | (simp [*]; done)), (by first | rfl | (simp; done) | (simp [*]; done)), H', ⟨by have := HK1.out; have := HJ5.out; have := HJ7.out; have := HJ9.out; have := HJ12.out; omega⟩, by repeat (first | exact Drawn0.refl _ | apply Drawn0.step)⟩
                            · rw [if_neg c33] at H
                              exact absurd H (by simp)
      · rw [if_neg c5] at H
        have c5b0 : decide (x10_1 < a3) = false := decide_eq_false c5
        clear c5
        obtain rfl := Option.some.inj H
        go_wp2
        go_ret
        exact ⟨by first | rfl | (simp; done) | (simp [*]; done), by repeat (first | exact Drawn0.refl _ | apply Drawn0.step)⟩

end Go.Proofs.YtgplakhkofchiaaDoor.RNumEvals
