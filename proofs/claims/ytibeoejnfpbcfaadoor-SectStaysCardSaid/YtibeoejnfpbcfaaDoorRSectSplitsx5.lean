-- Made by the program wip/patchprint.py (this session's own, over the kit's print)
import Derived.Test.YtibeoejnfpbcfaaDoorRSectSplitsx0
namespace Go.Proofs.YtibeoejnfpbcfaaDoor.RSectSplits
open Go.RowKit Go.Proofs.YtibeoejnfpbcfaaDoorW.PrintWords Go.Proofs.YtibeoejnfpbcfaaDoorW.PrintLast Go.Proofs.YtibeoejnfpbcfaaDoorW.PrintMore
attribute [local go_sem] max2_int min2_int max_two min_two max_three min_three max_four min_four   -- for this text's walks alone
set_option linter.unusedVariables false
set_option linter.unusedSimpArgs false
set_option linter.unnecessarySimpa false

attribute [local go_sem] err_eql err_neq err_nil_eql err_nil_neq
attribute [local simp] shl_zero
/-! ### grommetref07_Same: function 12 -/
def grommetref07_Same.l0 : Nat → List (S34) → List (S34) → Int → Option (Bool)
  | 0, _, _, _ => none
  | k + 1, x0, x1, x5 => if x5 < (x0.length : Int) then (if 0 ≤ x5 then (if x5 < (x1.length : Int) then (if ((rd_T34 x0 x5).f0) = ((rd_T34 x1 x5).f0) then (if (strOfNums ((rd_T34 x0 x5).f2)).toList = (strOfNums ((rd_T34 x1 x5).f2)).toList then (grommetref07_Same.l0 k x0 x1 (wrap64 (x5 + 1))) else (some false)) else (some false)) else (none)) else (none)) else (some true)
def grommetref07_Same.f (k : Nat) (l0 : List (S34)) (l1 : List (S34)) : Option (Bool) := if (l0.length : Int) = (l1.length : Int) then (grommetref07_Same.l0 k l0 l1 0) else (some false)
theorem grommetref07_Same.mono_l : ∀ k, (∀ y0 y1 y2, LeO (grommetref07_Same.l0 k y0 y1 y2) (grommetref07_Same.l0 (k + 1) y0 y1 y2))
  | 0 => fun _ _ _ r h => by simp [grommetref07_Same.l0] at h
  | k + 1 => by
    have ih0 := grommetref07_Same.mono_l k
    · intro y0 y1 y2
      unfold grommetref07_Same.l0
      repeat' first
      | (with_reducible exact ih0 _ _ _)
      | (with_reducible exact LeO.refl _)
      | (with_reducible exact LeO.none _)
      | (with_reducible refine LeO.ite ?_ ?_)
      | (with_reducible refine LeO.bind ?_ (fun _ => ?_))
      | exact ih0 _ _ _
      | exact LeO.none _
      | refine LeO.ite ?_ ?_
      | refine LeO.bind ?_ (fun _ => ?_)
theorem grommetref07_Same.mono : ∀ a0 a1 k, LeO (grommetref07_Same.f k a0 a1) (grommetref07_Same.f (k + 1) a0 a1) := by
  intro a0 a1 k
  have ih0 := grommetref07_Same.mono_l k
  unfold grommetref07_Same.f
  repeat' first
      | (with_reducible exact ih0 _ _ _)
      | (with_reducible exact LeO.refl _)
      | (with_reducible exact LeO.none _)
      | (with_reducible refine LeO.ite ?_ ?_)
      | (with_reducible refine LeO.bind ?_ (fun _ => ?_))
      | exact ih0 _ _ _
      | exact LeO.none _
      | refine LeO.ite ?_ ?_
      | refine LeO.bind ?_ (fun _ => ?_)
set_option maxHeartbeats 8000000 in
set_option maxRecDepth 100000 in
theorem grommetref07_Same.calls (k : Nat) (A0 : Option Addr) (c0 : Nat) (l0 : List (S34)) (A1 : Option Addr) (c1 : Nat) (l1 : List (S34)) (r : Bool) (w : World) (hr0 : Kd.C k34 w A0 l0.length l0) (hc0 : l0.length ≤ c0) (hr1 : Kd.C k34 w A1 l1.length l1) (hc1 : l1.length ≤ c1) (h : grommetref07_Same.f k l0 l1 = some r) :
    Calls Tryd.prog 12 #[.slice A0 l0.length c0, .slice A1 l1.length c1] w fun e w' => e = .returned (.bool r) ∧ Drawn0 w w' := by
  have HR0 := Aside0.mk hr0
  have HC0 := Aside0.mk hc0
  clear hr0 hc0
  have HR1 := Aside0.mk hr1
  have HC1 := Aside0.mk hc1
  clear hr1 hc1
  have H : (if (l0.length : Int) = (l1.length : Int) then (grommetref07_Same.l0 k l0 l1 0) else (some false)) = some r := h
  clear h
  by_cases c3 : (l0.length : Int) = (l1.length : Int)
  · rw [if_pos c3] at H
    have c3b0 : ((l0.length : Int) == (l1.length : Int)) = true := beq_iff_eq.mpr c3
    have c3b1 : ((l0.length : Int) != (l1.length : Int)) = false := bne_eq_false_iff_eq.mpr c3
    have c3b2 : (l0.length == l1.length) = true := by first | simpa using c3 | (simp at c3 ⊢; omega)
    clear c3
    have H' := Aside0.mk H
    clear H
    go_enter Tryd.func12, Tryd.ntmps12
    go_wp2
    repeat (go_quiet (fail); try go_wp2)
    go_loopg [5] k (fun kq v5 w' => ∃ (x5_1 : Int), v5 = .int .i64 x5_1 ∧ Aside0 (grommetref07_Same.l0 kq l0 l1 x5_1 = some r) ∧ Aside0 (kq ≤ k) ∧ Drawn0 w w')
    case atStart => exact ⟨(0), (by first | rfl | (simp; done) | (simp [*]; done)), H', ⟨Nat.le_refl _⟩, by repeat (first | exact Drawn0.refl _ | apply Drawn0.step)⟩
    case round =>
      clear H'
      try clear c1
      try clear p2
      try clear c3
      try clear c3b0
      try clear c3b1
      try clear c3b2
      obtain ⟨x5_1, rfl, HA, HK1, ⟨m1, rfl⟩⟩ := hrel
      cases gk with
      | zero => exact absurd HA.out (by simp [grommetref07_Same.l0])
      | succ k1 =>
        have H := HA.out
        clear HA
        simp only [grommetref07_Same.l0] at H
        by_cases c4 : x5_1 < (l0.length : Int)
        · rw [if_pos c4] at H
          have c4b0 : decide (x5_1 < (l0.length : Int)) = true := decide_eq_true c4
          clear c4
          by_cases c5 : 0 ≤ x5_1
          · rw [if_pos c5] at H
            have c5b0 : decide (0 ≤ x5_1) = true := decide_eq_true c5
            clear c5
            by_cases c6 : x5_1 < (l1.length : Int)
            · rw [if_pos c6] at H
              have c6b0 : decide (x5_1 < (l1.length : Int)) = true := decide_eq_true c6
              clear c6
              by_cases c7 : ((rd_T34 l0 x5_1).f0) = ((rd_T34 l1 x5_1).f0)
              · rw [if_pos c7] at H
                have c7b0 : (((rd_T34 l0 x5_1).f0) == ((rd_T34 l1 x5_1).f0)) = true := beq_iff_eq.mpr c7
                have c7b1 : (((rd_T34 l0 x5_1).f0) != ((rd_T34 l1 x5_1).f0)) = false := bne_eq_false_iff_eq.mpr c7
                clear c7
                by_cases c8 : (strOfNums ((rd_T34 l0 x5_1).f2)).toList = (strOfNums ((rd_T34 l1 x5_1).f2)).toList
                · rw [if_pos c8] at H
                  have c8b0 : ((strOfNums ((rd_T34 l0 x5_1).f2)).toList == (strOfNums ((rd_T34 l1 x5_1).f2)).toList) = true := beq_iff_eq.mpr c8
                  have c8b1 : ((strOfNums ((rd_T34 l0 x5_1).f2)).toList != (strOfNums ((rd_T34 l1 x5_1).f2)).toList) = false := bne_eq_false_iff_eq.mpr c8
                  clear c8
                  have H' := Aside0.mk H
                  clear H
                  have p206 : 0 ≤ (x5_1 : Int) := of_decide_eq_true (by first | (with_reducible assumption) | assumption)
                  have q206 : x5_1 < (l0.length : Int) := of_decide_eq_true (by first | (with_reducible assumption) | assumption)
                  obtain ⟨ad206, A206_2, c206_2, e206, hx206_0, hx206_1, hx206_2, hl206_2, hi206_2⟩ := at_T34 HR0.out x5_1 p206 q206
                  cases e206
                  have HR206_2 := Aside0.mk hi206_2
                  have HC206_2 := Aside0.mk hl206_2
                  clear hi206_2 hl206_2
                  replace p206 := eq_true p206
                  replace q206 := eq_true q206
                  have p207 : 0 ≤ (x5_1 : Int) := of_decide_eq_true (by first | (with_reducible assumption) | assumption)
                  have q207 : x5_1 < (l1.length : Int) := of_decide_eq_true (by first | (with_reducible assumption) | assumption)
                  obtain ⟨ad207, A207_2, c207_2, e207, hx207_0, hx207_1, hx207_2, hl207_2, hi207_2⟩ := at_T34 HR1.out x5_1 p207 q207
                  cases e207
                  have HR207_2 := Aside0.mk hi207_2
                  have HC207_2 := Aside0.mk hl207_2
                  clear hi207_2 hl207_2
                  replace p207 := eq_true p207
                  replace q207 := eq_true q207
                  have p208 : 0 ≤ (x5_1 : Int) := of_decide_eq_true (by first | (with_reducible assumption) | assumption)
                  have q208 : x5_1 < (l0.length : Int) := of_decide_eq_true (by first | (with_reducible assumption) | assumption)
                  obtain ⟨ad208, A208_2, c208_2, e208, hx208_0, hx208_1, hx208_2, hl208_2, hi208_2⟩ := at_T34 HR0.out x5_1 p208 q208
                  obtain rfl : ad206 = ad208 := (by injection e208)
                  have HR208_2 := Aside0.mk hi208_2
                  have HC208_2 := Aside0.mk hl208_2
                  clear hi208_2 hl208_2
                  replace p208 := eq_true p208
                  replace q208 := eq_true q208
                  have ea_ := Option.some.inj (hx206_2.symm.trans hx208_2)
                  injection ea_ with ea_ en_ ec_
                  subst ea_
                  subst ec_
                  clear en_
                  have hcv9 := Kd.C_string (P := Tryd.prog) (A := A206_2) (c := c206_2) Tryd.underlying22 Tryd.underlying5 Tryd.underlying9 HR208_2.out
                  have hcv9_ := fun k_ : Nat => Kd.C_string (P := Tryd.prog) (A := A206_2) (c := c206_2) Tryd.underlying22 Tryd.underlying5 Tryd.underlying9 (Kd.C_below HR208_2.out (pw_below_drewN (Below.refl _ _) k_))
                  have p209 : 0 ≤ (x5_1 : Int) := of_decide_eq_true (by first | (with_reducible assumption) | assumption)
                  have q209 : x5_1 < (l1.length : Int) := of_decide_eq_true (by first | (with_reducible assumption) | assumption)
                  obtain ⟨ad209, A209_2, c209_2, e209, hx209_0, hx209_1, hx209_2, hl209_2, hi209_2⟩ := at_T34 HR1.out x5_1 p209 q209
                  obtain rfl : ad207 = ad209 := (by injection e209)
                  have HR209_2 := Aside0.mk hi209_2
                  have HC209_2 := Aside0.mk hl209_2
                  clear hi209_2 hl209_2
                  replace p209 := eq_true p209
                  replace q209 := eq_true q209
                  have ea_ := Option.some.inj (hx207_2.symm.trans hx209_2)
                  injection ea_ with ea_ en_ ec_
                  subst ea_
                  subst ec_
                  clear en_
                  have hcv10 := Kd.C_string (P := Tryd.prog) (A := A207_2) (c := c207_2) Tryd.underlying22 Tryd.underlying5 Tryd.underlying9 HR209_2.out
                  have hcv10_ := fun k_ : Nat => Kd.C_string (P := Tryd.prog) (A := A207_2) (c := c207_2) Tryd.underlying22 Tryd.underlying5 Tryd.underlying9 (Kd.C_below HR209_2.out (pw_below_drewN (Below.refl _ _) k_))
                  go_wp2
                  repeat (go_quiet (fail); try go_wp2)
                  go_roundg k1
                  case measure => have := HK1.out; omega
                  case rel => exact ⟨(wrap64 (x5_1 + 1)), (by first | rfl | (simp; done) | (simp [*]; done)), H', ⟨by have := HK1.out; omega⟩, by repeat (first | exact Drawn0.refl _ | apply Drawn0.step)⟩
                · rw [if_neg c8] at H
                  have c8b0 : ((strOfNums ((rd_T34 l0 x5_1).f2)).toList == (strOfNums ((rd_T34 l1 x5_1).f2)).toList) = false := beq_eq_false_iff_ne.mpr c8
                  have c8b1 : ((strOfNums ((rd_T34 l0 x5_1).f2)).toList != (strOfNums ((rd_T34 l1 x5_1).f2)).toList) = true := bne_iff_ne.mpr c8
                  obtain rfl := Option.some.inj H
                  have p206 : 0 ≤ (x5_1 : Int) := of_decide_eq_true (by first | (with_reducible assumption) | assumption)
                  have q206 : x5_1 < (l0.length : Int) := of_decide_eq_true (by first | (with_reducible assumption) | assumption)
                  obtain ⟨ad206, A206_2, c206_2, e206, hx206_0, hx206_1, hx206_2, hl206_2, hi206_2⟩ := at_T34 HR0.out x5_1 p206 q206
                  cases e206
                  have HR206_2 := Aside0.mk hi206_2
                  have HC206_2 := Aside0.mk hl206_2
                  clear hi206_2 hl206_2
                  replace p206 := eq_true p206
                  replace q206 := eq_true q206
                  have p207 : 0 ≤ (x5_1 : Int) := of_decide_eq_true (by first | (with_reducible assumption) | assumption)
                  have q207 : x5_1 < (l1.length : Int) := of_decide_eq_true (by first | (with_reducible assumption) | assumption)
                  obtain ⟨ad207, A207_2, c207_2, e207, hx207_0, hx207_1, hx207_2, hl207_2, hi207_2⟩ := at_T34 HR1.out x5_1 p207 q207
                  cases e207
                  have HR207_2 := Aside0.mk hi207_2
                  have HC207_2 := Aside0.mk hl207_2
                  clear hi207_2 hl207_2
                  replace p207 := eq_true p207
                  replace q207 := eq_true q207
                  have p208 : 0 ≤ (x5_1 : Int) := of_decide_eq_true (by first | (with_reducible assumption) | assumption)
                  have q208 : x5_1 < (l0.length : Int) := of_decide_eq_true (by first | (with_reducible assumption) | assumption)
                  obtain ⟨ad208, A208_2, c208_2, e208, hx208_0, hx208_1, hx208_2, hl208_2, hi208_2⟩ := at_T34 HR0.out x5_1 p208 q208
                  obtain rfl : ad206 = ad208 := (by injection e208)
                  have HR208_2 := Aside0.mk hi208_2
                  have HC208_2 := Aside0.mk hl208_2
                  clear hi208_2 hl208_2
                  replace p208 := eq_true p208
                  replace q208 := eq_true q208
                  have ea_ := Option.some.inj (hx206_2.symm.trans hx208_2)
                  injection ea_ with ea_ en_ ec_
                  subst ea_
                  subst ec_
                  clear en_
                  have hcv11 := Kd.C_string (P := Tryd.prog) (A := A206_2) (c := c206_2) Tryd.underlying22 Tryd.underlying5 Tryd.underlying9 HR208_2.out
                  have hcv11_ := fun k_ : Nat => Kd.C_string (P := Tryd.prog) (A := A206_2) (c := c206_2) Tryd.underlying22 Tryd.underlying5 Tryd.underlying9 (Kd.C_below HR208_2.out (pw_below_drewN (Below.refl _ _) k_))
                  have p209 : 0 ≤ (x5_1 : Int) := of_decide_eq_true (by first | (with_reducible assumption) | assumption)
                  have q209 : x5_1 < (l1.length : Int) := of_decide_eq_true (by first | (with_reducible assumption) | assumption)
                  obtain ⟨ad209, A209_2, c209_2, e209, hx209_0, hx209_1, hx209_2, hl209_2, hi209_2⟩ := at_T34 HR1.out x5_1 p209 q209
                  obtain rfl : ad207 = ad209 := (by injection e209)
                  have HR209_2 := Aside0.mk hi209_2
                  have HC209_2 := Aside0.mk hl209_2
                  clear hi209_2 hl209_2
                  replace p209 := eq_true p209
                  replace q209 := eq_true q209
                  have ea_ := Option.some.inj (hx207_2.symm.trans hx209_2)
                  injection ea_ with ea_ en_ ec_
                  subst ea_
                  subst ec_
                  clear en_
                  have hcv12 := Kd.C_string (P := Tryd.prog) (A := A207_2) (c := c207_2) Tryd.underlying22 Tryd.underlying5 Tryd.underlying9 HR209_2.out
                  have hcv12_ := fun k_ : Nat => Kd.C_string (P := Tryd.prog) (A := A207_2) (c := c207_2) Tryd.underlying22 Tryd.underlying5 Tryd.underlying9 (Kd.C_below HR209_2.out (pw_below_drewN (Below.refl _ _) k_))
                  go_wp2
                  repeat (go_quiet (fail); try go_wp2)
                  go_ret
                  exact ⟨by first | rfl | (simp; done) | (simp [*]; done), by repeat (first | exact Drawn0.refl _ | apply Drawn0.step)⟩
              · rw [if_neg c7] at H
                have c7b0 : (((rd_T34 l0 x5_1).f0) == ((rd_T34 l1 x5_1).f0)) = false := beq_eq_false_iff_ne.mpr c7
                have c7b1 : (((rd_T34 l0 x5_1).f0) != ((rd_T34 l1 x5_1).f0)) = true := bne_iff_ne.mpr c7
                obtain rfl := Option.some.inj H
                have p206 : 0 ≤ (x5_1 : Int) := of_decide_eq_true (by first | (with_reducible assumption) | assumption)
                have q206 : x5_1 < (l0.length : Int) := of_decide_eq_true (by first | (with_reducible assumption) | assumption)
                obtain ⟨ad206, A206_2, c206_2, e206, hx206_0, hx206_1, hx206_2, hl206_2, hi206_2⟩ := at_T34 HR0.out x5_1 p206 q206
                cases e206
                have HR206_2 := Aside0.mk hi206_2
                have HC206_2 := Aside0.mk hl206_2
                clear hi206_2 hl206_2
                replace p206 := eq_true p206
                replace q206 := eq_true q206
                have p207 : 0 ≤ (x5_1 : Int) := of_decide_eq_true (by first | (with_reducible assumption) | assumption)
                have q207 : x5_1 < (l1.length : Int) := of_decide_eq_true (by first | (with_reducible assumption) | assumption)
                obtain ⟨ad207, A207_2, c207_2, e207, hx207_0, hx207_1, hx207_2, hl207_2, hi207_2⟩ := at_T34 HR1.out x5_1 p207 q207
                cases e207
                have HR207_2 := Aside0.mk hi207_2
                have HC207_2 := Aside0.mk hl207_2
                clear hi207_2 hl207_2
                replace p207 := eq_true p207
                replace q207 := eq_true q207
                go_wp2
                repeat (go_quiet (fail); try go_wp2)
                go_ret
                exact ⟨by first | rfl | (simp; done) | (simp [*]; done), by repeat (first | exact Drawn0.refl _ | apply Drawn0.step)⟩
            · rw [if_neg c6] at H
              exact absurd H (by simp)
          · rw [if_neg c5] at H
            exact absurd H (by simp)
        · rw [if_neg c4] at H
          have c4b0 : decide (x5_1 < (l0.length : Int)) = false := decide_eq_false c4
          clear c4
          obtain rfl := Option.some.inj H
          go_wp2
          repeat (go_quiet (fail); try go_wp2)
          go_ret
          exact ⟨by first | rfl | (simp; done) | (simp [*]; done), by repeat (first | exact Drawn0.refl _ | apply Drawn0.step)⟩
  · rw [if_neg c3] at H
    have c3b0 : ((l0.length : Int) == (l1.length : Int)) = false := beq_eq_false_iff_ne.mpr c3
    have c3b1 : ((l0.length : Int) != (l1.length : Int)) = true := bne_iff_ne.mpr c3
    have c3b2 : (l0.length == l1.length) = false := by first | simpa using c3 | (simp at c3 ⊢; omega)
    obtain rfl := Option.some.inj H
    go_enter Tryd.func12, Tryd.ntmps12
    go_wp2
    repeat (go_quiet (fail); try go_wp2)
    go_ret
    exact ⟨by first | rfl | (simp; done) | (simp [*]; done), by repeat (first | exact Drawn0.refl _ | apply Drawn0.step)⟩

-- NOT PRINTED: function 3 (grommetlaw07_SectSplits)

end Go.Proofs.YtibeoejnfpbcfaaDoor.RSectSplits
