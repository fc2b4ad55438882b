-- Made by the program wip/patchprint.py (this session's own, over the kit's print)
import Derived.Test.YtaidpcmndmjceaaDoorRLexScansx0
import Derived.Test.YtaidpcmndmjceaaDoorRLexScansx2
namespace Go.Proofs.YtaidpcmndmjceaaDoor.RLexScans
open Go.RowKit Go.Proofs.YtaidpcmndmjceaaDoor.Man Go.Proofs.YtaidpcmndmjceaaDoorW.PrintWords Go.Proofs.YtaidpcmndmjceaaDoorW.PrintLast Go.Proofs.YtaidpcmndmjceaaDoorW.PrintMore
attribute [local go_sem] max2_int min2_int max_two min_two max_three min_three max_four min_four   -- for this text's walks alone
set_option linter.unusedVariables false
set_option linter.unusedSimpArgs false
set_option linter.unnecessarySimpa false

attribute [local go_sem] err_eql err_neq err_nil_eql err_nil_neq
attribute [local simp] shl_zero
/-! ### grommetref09_gap: function 16 -/
mutual
def grommetref09_gap.j0 : Nat → ByteArray → Int → Bool → Option (Int)
  | 0, _, _, _ => none
  | k + 1, x0, x1, x31 => if x31 = true then (some (wrap64 (x1 + 1))) else ((grommetref09_two.f x0 x1 59 59).bind fun t114 => (if t114 = true then (grommetref09_gap.l0 k x0 x1) else ((grommetref09_two.f x0 x1 40 59).bind fun t115 => (if t115 = true then (grommetref09_gap.l1 k x0 x1 0) else (some x1)))))
def grommetref09_gap.l0 : Nat → ByteArray → Int → Option (Int)
  | 0, _, _ => none
  | k + 1, x0, x1 => if x1 < (x0.size : Int) then (if 0 ≤ x1 then (if (bt x0 x1) = 10 then (some (wrap64 (x1 + 1))) else (grommetref09_gap.l0 k x0 (wrap64 (x1 + 1)))) else (none)) else (some x1)
def grommetref09_gap.l1 : Nat → ByteArray → Int → Int → Option (Int)
  | 0, _, _, _ => none
  | k + 1, x0, x1, x7 => if x1 < (x0.size : Int) then ((grommetref09_two.f x0 x1 40 59).bind fun t116 => ((grommetref09_two.f x0 x1 59 41).bind fun t117 => (if t116 = true then (grommetref09_gap.l1 k x0 (wrap64 (x1 + 2)) (wrap64 (x7 + 1))) else (if t117 = true then (if (wrap64 (x7 - 1)) = 0 then (some (wrap64 (x1 + 2))) else (grommetref09_gap.l1 k x0 (wrap64 (x1 + 2)) (wrap64 (x7 - 1)))) else (grommetref09_gap.l1 k x0 (wrap64 (x1 + 1)) x7))))) else (some (-1))
end
def grommetref09_gap.f (k : Nat) (a0 : ByteArray) (a1 : Int) : Option (Int) := if 0 ≤ a1 then (if a1 < (a0.size : Int) then (if (bt a0 a1) = 32 then (grommetref09_gap.j0 k a0 a1 true) else (if (bt a0 a1) = 9 then (grommetref09_gap.j0 k a0 a1 true) else (if (bt a0 a1) = 10 then (grommetref09_gap.j0 k a0 a1 true) else (grommetref09_gap.j0 k a0 a1 ((bt a0 a1) == 13))))) else (none)) else (none)
theorem grommetref09_gap.mono_l : ∀ k, (∀ y0 y1 y2, LeO (grommetref09_gap.j0 k y0 y1 y2) (grommetref09_gap.j0 (k + 1) y0 y1 y2)) ∧ (∀ y0 y1, LeO (grommetref09_gap.l0 k y0 y1) (grommetref09_gap.l0 (k + 1) y0 y1)) ∧ (∀ y0 y1 y2, LeO (grommetref09_gap.l1 k y0 y1 y2) (grommetref09_gap.l1 (k + 1) y0 y1 y2))
  | 0 => ⟨fun _ _ _ r h => by simp [grommetref09_gap.j0] at h, fun _ _ r h => by simp [grommetref09_gap.l0] at h, fun _ _ _ r h => by simp [grommetref09_gap.l1] at h⟩
  | k + 1 => by
    obtain ⟨ih0, ih1, ih2⟩ := grommetref09_gap.mono_l k
    refine ⟨?_, ?_, ?_⟩
    · intro y0 y1 y2
      unfold grommetref09_gap.j0
      repeat' first
      | (with_reducible exact ih0 _ _ _)
      | (with_reducible exact ih1 _ _)
      | (with_reducible exact ih2 _ _ _)
      | (with_reducible exact LeO.refl _)
      | (with_reducible exact LeO.none _)
      | (with_reducible refine LeO.ite ?_ ?_)
      | (with_reducible refine LeO.bind ?_ (fun _ => ?_))
      | exact ih0 _ _ _
      | exact ih1 _ _
      | exact ih2 _ _ _
      | exact LeO.none _
      | refine LeO.ite ?_ ?_
      | refine LeO.bind ?_ (fun _ => ?_)
    · intro y0 y1
      unfold grommetref09_gap.l0
      repeat' first
      | (with_reducible exact ih0 _ _ _)
      | (with_reducible exact ih1 _ _)
      | (with_reducible exact ih2 _ _ _)
      | (with_reducible exact LeO.refl _)
      | (with_reducible exact LeO.none _)
      | (with_reducible refine LeO.ite ?_ ?_)
      | (with_reducible refine LeO.bind ?_ (fun _ => ?_))
      | exact ih0 _ _ _
      | exact ih1 _ _
      | exact ih2 _ _ _
      | exact LeO.none _
      | refine LeO.ite ?_ ?_
      | refine LeO.bind ?_ (fun _ => ?_)
    · intro y0 y1 y2
      unfold grommetref09_gap.l1
      repeat' first
      | (with_reducible exact ih0 _ _ _)
      | (with_reducible exact ih1 _ _)
      | (with_reducible exact ih2 _ _ _)
      | (with_reducible exact LeO.refl _)
      | (with_reducible exact LeO.none _)
      | (with_reducible refine LeO.ite ?_ ?_)
      | (with_reducible refine LeO.bind ?_ (fun _ => ?_))
      | exact ih0 _ _ _
      | exact ih1 _ _
      | exact ih2 _ _ _
      | exact LeO.none _
      | refine LeO.ite ?_ ?_
      | refine LeO.bind ?_ (fun _ => ?_)
theorem grommetref09_gap.mono : ∀ a0 a1 k, LeO (grommetref09_gap.f k a0 a1) (grommetref09_gap.f (k + 1) a0 a1) := by
  intro a0 a1 k
  obtain ⟨ih0, ih1, ih2⟩ := grommetref09_gap.mono_l k
  unfold grommetref09_gap.f
  repeat' first
      | (with_reducible exact ih0 _ _ _)
      | (with_reducible exact ih1 _ _)
      | (with_reducible exact ih2 _ _ _)
      | (with_reducible exact LeO.refl _)
      | (with_reducible exact LeO.none _)
      | (with_reducible refine LeO.ite ?_ ?_)
      | (with_reducible refine LeO.bind ?_ (fun _ => ?_))
      | exact ih0 _ _ _
      | exact ih1 _ _
      | exact ih2 _ _ _
      | exact LeO.none _
      | refine LeO.ite ?_ ?_
      | refine LeO.bind ?_ (fun _ => ?_)
set_option maxHeartbeats 8000000 in
set_option maxRecDepth 100000 in
theorem grommetref09_gap.calls (k : Nat) (a0 : ByteArray) (a1 : Int) (r : Int) (w : World) (h : grommetref09_gap.f k a0 a1 = some r) :
    Calls Tryd.prog 16 #[.string a0, .int .i64 a1] w fun e w' => e = .returned (.int .i64 r) ∧ Drawn0 w w' := by
  have H : (if 0 ≤ a1 then (if a1 < (a0.size : Int) then (if (bt a0 a1) = 32 then (grommetref09_gap.j0 k a0 a1 true) else (if (bt a0 a1) = 9 then (grommetref09_gap.j0 k a0 a1 true) else (if (bt a0 a1) = 10 then (grommetref09_gap.j0 k a0 a1 true) else (grommetref09_gap.j0 k a0 a1 ((bt a0 a1) == 13))))) else (none)) else (none)) = some r := h
  clear h
  have HC3 := Aside0.mk H
  clear H
  go_enter Tryd.func16, Tryd.ntmps16
  go_upto_region 1 with (fail)
  go_cut [31] (fun v31 wc => ∃ (kq : Nat) (x31_2 : Bool), v31 = .bool x31_2 ∧ Aside0 (grommetref09_gap.j0 kq a0 a1 x31_2 = some r) ∧ Aside0 (kq ≤ k) ∧ Drawn0 w wc)
  case first =>
    have H := HC3.out
    clear HC3
    by_cases c4 : 0 ≤ a1
    · rw [if_pos c4] at H
      have c4b0 : decide (0 ≤ a1) = true := decide_eq_true c4
      clear c4
      (first | rw [c4b0] | (simp only [i64_w, i32_w]; rw [c4b0]) | skip)
      by_cases c5 : a1 < (a0.size : Int)
      · rw [if_pos c5] at H
        have c5b0 : decide (a1 < (a0.size : Int)) = true := decide_eq_true c5
        clear c5
        by_cases c7 : (bt a0 a1) = 32
        · rw [if_pos c7] at H
          have c7b0 : ((bt a0 a1) == 32) = true := beq_iff_eq.mpr c7
          have c7b1 : ((bt a0 a1) != 32) = false := bne_eq_false_iff_eq.mpr c7
          clear c7
          have H' := Aside0.mk H
          clear H
          have p6 : 0 ≤ (a1 : Int) := of_decide_eq_true (by first | (with_reducible assumption) | assumption)
          have q6 : a1 < (a0.size : Int) := of_decide_eq_true (by first | (with_reducible assumption) | assumption)
          have hx6 := bt_at a0 a1
          replace p6 := eq_true p6
          replace q6 := eq_true q6
          go_wp2
          go_meet
          case rel => exact ⟨_, (true), (by first | rfl | (simp; done) | (simp [*]; done)), H', ⟨by first | omega | exact Nat.le_refl _⟩, by repeat (first | exact Drawn0.refl _ | apply Drawn0.step)⟩
        · rw [if_neg c7] at H
          have c7b0 : ((bt a0 a1) == 32) = false := beq_eq_false_iff_ne.mpr c7
          have c7b1 : ((bt a0 a1) != 32) = true := bne_iff_ne.mpr c7
          by_cases c9 : (bt a0 a1) = 9
          · rw [if_pos c9] at H
            have c9b0 : ((bt a0 a1) == 9) = true := beq_iff_eq.mpr c9
            have c9b1 : ((bt a0 a1) != 9) = false := bne_eq_false_iff_eq.mpr c9
            clear c9
            have H' := Aside0.mk H
            clear H
            have p6 : 0 ≤ (a1 : Int) := of_decide_eq_true (by first | (with_reducible assumption) | assumption)
            have q6 : a1 < (a0.size : Int) := of_decide_eq_true (by first | (with_reducible assumption) | assumption)
            have hx6 := bt_at a0 a1
            replace p6 := eq_true p6
            replace q6 := eq_true q6
            have p8 : 0 ≤ (a1 : Int) := of_decide_eq_true (by first | (with_reducible assumption) | assumption)
            have q8 : a1 < (a0.size : Int) := of_decide_eq_true (by first | (with_reducible assumption) | assumption)
            have hx8 := bt_at a0 a1
            replace p8 := eq_true p8
            replace q8 := eq_true q8
            go_wp2
            go_meet
            case rel => exact ⟨_, (true), (by first | rfl | (simp; done) | (simp [*]; done)), H', ⟨by first | omega | exact Nat.le_refl _⟩, by repeat (first | exact Drawn0.refl _ | apply Drawn0.step)⟩
          · rw [if_neg c9] at H
            have c9b0 : ((bt a0 a1) == 9) = false := beq_eq_false_iff_ne.mpr c9
            have c9b1 : ((bt a0 a1) != 9) = true := bne_iff_ne.mpr c9
            by_cases c11 : (bt a0 a1) = 10
            · rw [if_pos c11] at H
              have c11b0 : ((bt a0 a1) == 10) = true := beq_iff_eq.mpr c11
              have c11b1 : ((bt a0 a1) != 10) = false := bne_eq_false_iff_eq.mpr c11
              clear c11
              have H' := Aside0.mk H
              clear H
              have p6 : 0 ≤ (a1 : Int) := of_decide_eq_true (by first | (with_reducible assumption) | assumption)
              have q6 : a1 < (a0.size : Int) := of_decide_eq_true (by first | (with_reducible assumption) | assumption)
              have hx6 := bt_at a0 a1
              replace p6 := eq_true p6
              replace q6 := eq_true q6
              have p8 : 0 ≤ (a1 : Int) := of_decide_eq_true (by first | (with_reducible assumption) | assumption)
              have q8 : a1 < (a0.size : Int) := of_decide_eq_true (by first | (with_reducible assumption) | assumption)
              have hx8 := bt_at a0 a1
              replace p8 := eq_true p8
              replace q8 := eq_true q8
              have p10 : 0 ≤ (a1 : Int) := of_decide_eq_true (by first | (with_reducible assumption) | assumption)
              have q10 : a1 < (a0.size : Int) := of_decide_eq_true (by first | (with_reducible assumption) | assumption)
              have hx10 := bt_at a0 a1
              replace p10 := eq_true p10
              replace q10 := eq_true q10
              go_wp2
              go_meet
              case rel => exact ⟨_, (true), (by first | rfl | (simp; done) | (simp [*]; done)), H', ⟨by first | omega | exact Nat.le_refl _⟩, by repeat (first | exact Drawn0.refl _ | apply Drawn0.step)⟩
            · rw [if_neg c11] at H
              have c11b0 : ((bt a0 a1) == 10) = false := beq_eq_false_iff_ne.mpr c11
              have c11b1 : ((bt a0 a1) != 10) = true := bne_iff_ne.mpr c11
              have H' := Aside0.mk H
              clear H
              have p6 : 0 ≤ (a1 : Int) := of_decide_eq_true (by first | (with_reducible assumption) | assumption)
              have q6 : a1 < (a0.size : Int) := of_decide_eq_true (by first | (with_reducible assumption) | assumption)
              have hx6 := bt_at a0 a1
              replace p6 := eq_true p6
              replace q6 := eq_true q6
              have p8 : 0 ≤ (a1 : Int) := of_decide_eq_true (by first | (with_reducible assumption) | assumption)
              have q8 : a1 < (a0.size : Int) := of_decide_eq_true (by first | (with_reducible assumption) | assumption)
              have hx8 := bt_at a0 a1
              replace p8 := eq_true p8
              replace q8 := eq_true q8
              have p10 : 0 ≤ (a1 : Int) := of_decide_eq_true (by first | (with_reducible assumption) | assumption)
              have q10 : a1 < (a0.size : Int) := of_decide_eq_true (by first | (with_reducible assumption) | assumption)
              have hx10 := bt_at a0 a1
              replace p10 := eq_true p10
              replace q10 := eq_true q10
              have p12 : 0 ≤ (a1 : Int) := of_decide_eq_true (by first | (with_reducible assumption) | assumption)
              have q12 : a1 < (a0.size : Int) := of_decide_eq_true (by first | (with_reducible assumption) | assumption)
              have hx12 := bt_at a0 a1
              replace p12 := eq_true p12
              replace q12 := eq_true q12
              go_wp2
              go_meet
              case rel => exact ⟨_, (((bt a0 a1) == 13)), (by first | rfl | (simp; done) | (simp [*]; done)), H', ⟨by first | omega | exact Nat.le_refl _⟩, by repeat (first | exact Drawn0.refl _ | apply Drawn0.step)⟩
      · rw [if_neg c5] at H
        exact absurd H (by simp)
    · rw [if_neg c4] at H
      exact absurd H (by simp)
  case rest =>
    clear HC3
    try clear c1
    try clear p1
    try clear q1
    try clear hx1
    try clear p2
    try clear c4
    try clear c4b0
    try clear c5
    try clear c5b0
    try clear p6
    try clear q6
    try clear hx6
    try clear c7
    try clear c7b0
    try clear c7b1
    try clear p8
    try clear q8
    try clear hx8
    try clear c9
    try clear c9b0
    try clear c9b1
    try clear p10
    try clear q10
    try clear hx10
    try clear c11
    try clear c11b0
    try clear c11b1
    try clear p12
    try clear q12
    try clear hx12
    try clear p10
    try clear p12
    try clear p6
    try clear p8
    try clear q10
    try clear q12
    try clear q6
    try clear q8
    obtain ⟨kq, x31_2, rfl, HA, HJ2, ⟨mc2, rfl⟩⟩ := hcut
    cases kq with
    | zero => exact absurd HA.out (by simp [grommetref09_gap.j0])
    | succ kj2 =>
      have H := HA.out
      clear HA
      simp only [grommetref09_gap.j0] at H
      by_cases c13 : x31_2 = true
      · subst c13
        have H1 : (some (wrap64 (a1 + 1))) = some r := by rw [if_pos rfl] at H; exact H
        clear H
        have H := H1
        clear H1
        obtain rfl := Option.some.inj H
        go_wp2
        go_ret
        exact ⟨by first | rfl | (simp; done) | (simp [*]; done), by repeat (first | exact Drawn0.refl _ | apply Drawn0.step)⟩
      · replace c13 := Bool.eq_false_iff.mpr c13
        subst c13
        have H1 : ((grommetref09_two.f a0 a1 59 59).bind fun t114 => (if t114 = true then (grommetref09_gap.l0 kj2 a0 a1) else ((grommetref09_two.f a0 a1 40 59).bind fun t115 => (if t115 = true then (grommetref09_gap.l1 kj2 a0 a1 0) else (some a1))))) = some r := by rw [if_neg (show ¬ (false = true) by decide)] at H; exact H
        clear H
        have H := H1
        clear H1
        replace H := Option.bind_eq_some_iff.mp H
        obtain ⟨t114, A140, H⟩ := H
        replace H : (if t114 = true then (grommetref09_gap.l0 kj2 a0 a1) else ((grommetref09_two.f a0 a1 40 59).bind fun t115 => (if t115 = true then (grommetref09_gap.l1 kj2 a0 a1 0) else (some a1)))) = some r := H
        have A14 := Aside0.mk A140
        clear A140
        by_cases c15 : t114 = true
        · subst c15
          have H1 : (grommetref09_gap.l0 kj2 a0 a1) = some r := by rw [if_pos rfl] at H; exact H
          clear H
          have H := H1
          clear H1
          have H' := Aside0.mk H
          clear H
          go_wp2_with (first | ((with_reducible refine gate_callee (f := 26) rfl ?_); refine goesL_ (some 36) rfl rfl Tryd.func26 (by kernel_rfl) rfl #[.string a0, .int .i64 a1, .int .u8 59, .int .u8 59] rfl (by (try simp only [List.map_toArray, List.map_cons, List.map_nil]); first | done | rfl | (simp only [List.length_drop, List.length_take]; rfl)) ?_; (with_reducible refine (grommetref09_two.calls a0 a1 59 59 true _ A14.out).mono ?_); rintro e w' ⟨rfl, ⟨nd, rfl⟩⟩; refine ⟨_, rfl, ?_⟩))
          go_loopg [1] kj2 (fun kq v1 w' => ∃ (x1_2 : Int), v1 = .int .i64 x1_2 ∧ Aside0 (grommetref09_gap.l0 kq a0 x1_2 = some r) ∧ Aside0 (kq ≤ kj2) ∧ Drawn0 w w')
          case atStart => exact ⟨(a1), (by first | rfl | (simp; done) | (simp [*]; done)), H', ⟨Nat.le_refl _⟩, by repeat (first | exact Drawn0.refl _ | apply Drawn0.step)⟩
          case round =>
            clear H'
            try clear c1
            try clear p1
            try clear q1
            try clear hx1
            try clear c2
            try clear p2
            try clear c4
            try clear c4b0
            try clear c5
            try clear c5b0
            try clear p6
            try clear q6
            try clear hx6
            try clear c7
            try clear c7b0
            try clear c7b1
            try clear p8
            try clear q8
            try clear hx8
            try clear c9
            try clear c9b0
            try clear c9b1
            try clear p10
            try clear q10
            try clear hx10
            try clear c11
            try clear c11b0
            try clear c11b1
            try clear p12
            try clear q12
            try clear hx12
            try clear c13
            try clear c15
            try clear p1
            try clear p10
            try clear p12
            try clear p2
            try clear p6
            try clear p8
            try clear q1
            try clear q10
            try clear q12
            try clear q6
            try clear q8
            obtain ⟨x1_2, rfl, HA, HK2, ⟨m2, rfl⟩⟩ := hrel
            cases gk with
            | zero => exact absurd HA.out (by simp [grommetref09_gap.l0])
            | succ k2 =>
              have H := HA.out
              clear HA
              simp only [grommetref09_gap.l0] at H
              by_cases c16 : x1_2 < (a0.size : Int)
              · rw [if_pos c16] at H
                have c16b0 : decide (x1_2 < (a0.size : Int)) = true := decide_eq_true c16
                clear c16
                by_cases c17 : 0 ≤ x1_2
                · rw [if_pos c17] at H
                  have c17b0 : decide (0 ≤ x1_2) = true := decide_eq_true c17
                  clear c17
                  by_cases c19 : (bt a0 x1_2) = 10
                  · rw [if_pos c19] at H
                    have c19b0 : ((bt a0 x1_2) == 10) = true := beq_iff_eq.mpr c19
                    have c19b1 : ((bt a0 x1_2) != 10) = false := bne_eq_false_iff_eq.mpr c19
                    clear c19
                    obtain rfl := Option.some.inj H
                    have p18 : 0 ≤ (x1_2 : Int) := of_decide_eq_true (by first | (with_reducible assumption) | assumption)
                    have q18 : x1_2 < (a0.size : Int) := of_decide_eq_true (by first | (with_reducible assumption) | assumption)
                    have hx18 := bt_at a0 x1_2
                    replace p18 := eq_true p18
                    replace q18 := eq_true q18
                    go_wp2
                    go_ret
                    exact ⟨by first | rfl | (simp; done) | (simp [*]; done), by repeat (first | exact Drawn0.refl _ | apply Drawn0.step)⟩
                  · rw [if_neg c19] at H
                    have c19b0 : ((bt a0 x1_2) == 10) = false := beq_eq_false_iff_ne.mpr c19
                    have c19b1 : ((bt a0 x1_2) != 10) = true := bne_iff_ne.mpr c19
                    have H' := Aside0.mk H
                    clear H
                    have p18 : 0 ≤ (x1_2 : Int) := of_decide_eq_true (by first | (with_reducible assumption) | assumption)
                    have q18 : x1_2 < (a0.size : Int) := of_decide_eq_true (by first | (with_reducible assumption) | assumption)
                    have hx18 := bt_at a0 x1_2
                    replace p18 := eq_true p18
                    replace q18 := eq_true q18
                    go_wp2
                    go_roundg k2
                    case measure => have := HJ2.out; have := HK2.out; omega
                    case rel => exact ⟨(wrap64 (x1_2 + 1)), (by first | rfl | (simp; done) | (simp [*]; done)), H', ⟨by have := HJ2.out; have := HK2.out; omega⟩, by repeat (first | exact Drawn0.refl _ | apply Drawn0.step)⟩
                · rw [if_neg c17] at H
                  exact absurd H (by simp)
              · rw [if_neg c16] at H
                have c16b0 : decide (x1_2 < (a0.size : Int)) = false := decide_eq_false c16
                clear c16
                obtain rfl := Option.some.inj H
                go_wp2
                go_ret
                exact ⟨by first | rfl | (simp; done) | (simp [*]; done), by repeat (first | exact Drawn0.refl _ | apply Drawn0.step)⟩
        · replace c15 := Bool.eq_false_iff.mpr c15
          subst c15
          have H1 : ((grommetref09_two.f a0 a1 40 59).bind fun t115 => (if t115 = true then (grommetref09_gap.l1 kj2 a0 a1 0) else (some a1))) = some r := by rw [if_neg (show ¬ (false = true) by decide)] at H; exact H
          clear H
          have H := H1
          clear H1
          replace H := Option.bind_eq_some_iff.mp H
          obtain ⟨t115, A200, H⟩ := H
          replace H : (if t115 = true then (grommetref09_gap.l1 kj2 a0 a1 0) else (some a1)) = some r := H
          have A20 := Aside0.mk A200
          clear A200
          by_cases c21 : t115 = true
          · subst c21
            have H1 : (grommetref09_gap.l1 kj2 a0 a1 0) = some r := by rw [if_pos rfl] at H; exact H
            clear H
            have H := H1
            clear H1
            have H' := Aside0.mk H
            clear H
            go_wp2_with (first | ((with_reducible refine gate_callee (f := 26) rfl ?_); refine goesL_ (some 36) rfl rfl Tryd.func26 (by kernel_rfl) rfl #[.string a0, .int .i64 a1, .int .u8 59, .int .u8 59] rfl (by (try simp only [List.map_toArray, List.map_cons, List.map_nil]); first | done | rfl | (simp only [List.length_drop, List.length_take]; rfl)) ?_; (with_reducible refine (grommetref09_two.calls a0 a1 59 59 false _ A14.out).mono ?_); rintro e w' ⟨rfl, ⟨nd, rfl⟩⟩; refine ⟨_, rfl, ?_⟩) | ((with_reducible refine gate_callee (f := 26) rfl ?_); refine goesL_ (some 59) rfl rfl Tryd.func26 (by kernel_rfl) rfl #[.string a0, .int .i64 a1, .int .u8 40, .int .u8 59] rfl (by (try simp only [List.map_toArray, List.map_cons, List.map_nil]); first | done | rfl | (simp only [List.length_drop, List.length_take]; rfl)) ?_; (with_reducible refine (grommetref09_two.calls a0 a1 40 59 true _ A20.out).mono ?_); rintro e w' ⟨rfl, ⟨nd, rfl⟩⟩; refine ⟨_, rfl, ?_⟩))
            go_loopg [1, 7] kj2 (fun kq v1 v7 w' => ∃ (x1_2 : Int) (x7_2 : Int), v1 = .int .i64 x1_2 ∧ v7 = .int .i64 x7_2 ∧ Aside0 (grommetref09_gap.l1 kq a0 x1_2 x7_2 = some r) ∧ Aside0 (kq ≤ kj2) ∧ Drawn0 w w')
            case atStart => exact ⟨(a1), (0), (by first | rfl | (simp; done) | (simp [*]; done)), (by first | rfl | (simp; done) | (simp [*]; done)), H', ⟨Nat.le_refl _⟩, by repeat (first | exact Drawn0.refl _ | apply Drawn0.step)⟩
            case round =>
              clear H'
              try clear c1
              try clear p1
              try clear q1
              try clear hx1
              try clear c2
              try clear p2
              try clear c4
              try clear c4b0
              try clear c5
              try clear c5b0
              try clear p6
              try clear q6
              try clear hx6
              try clear c7
              try clear c7b0
              try clear c7b1
              try clear p8
              try clear q8
              try clear hx8
              try clear c9
              try clear c9b0
              try clear c9b1
              try clear p10
              try clear q10
              try clear hx10
              try clear c11
              try clear c11b0
              try clear c11b1
              try clear p12
              try clear q12
              try clear hx12
              try clear c13
              try clear c15
              try clear c16
              try clear c16b0
              try clear c17
              try clear c17b0
              try clear p18
              try clear q18
              try clear hx18
              try clear c19
              try clear c19b0
              try clear c19b1
              try clear c21
              try clear p1
              try clear p10
              try clear p12
              try clear p18
              try clear p2
              try clear p6
              try clear p8
              try clear q1
              try clear q10
              try clear q12
              try clear q18
              try clear q6
              try clear q8
              obtain ⟨x1_2, x7_2, rfl, rfl, HA, HK2, ⟨m2, rfl⟩⟩ := hrel
              cases gk with
              | zero => exact absurd HA.out (by simp [grommetref09_gap.l1])
              | succ k2 =>
                have H := HA.out
                clear HA
                simp only [grommetref09_gap.l1] at H
                by_cases c22 : x1_2 < (a0.size : Int)
                · rw [if_pos c22] at H
                  have c22b0 : decide (x1_2 < (a0.size : Int)) = true := decide_eq_true c22
                  clear c22
                  replace H := Option.bind_eq_some_iff.mp H
                  obtain ⟨t116, A230, H⟩ := H
                  replace H : ((grommetref09_two.f a0 x1_2 59 41).bind fun t117 => (if t116 = true then (grommetref09_gap.l1 k2 a0 (wrap64 (x1_2 + 2)) (wrap64 (x7_2 + 1))) else (if t117 = true then (if (wrap64 (x7_2 - 1)) = 0 then (some (wrap64 (x1_2 + 2))) else (grommetref09_gap.l1 k2 a0 (wrap64 (x1_2 + 2)) (wrap64 (x7_2 - 1)))) else (grommetref09_gap.l1 k2 a0 (wrap64 (x1_2 + 1)) x7_2)))) = some r := H
                  have A23 := Aside0.mk A230
                  clear A230
                  replace H := Option.bind_eq_some_iff.mp H
                  obtain ⟨t117, A240, H⟩ := H
                  replace H : (if t116 = true then (grommetref09_gap.l1 k2 a0 (wrap64 (x1_2 + 2)) (wrap64 (x7_2 + 1))) else (if t117 = true then (if (wrap64 (x7_2 - 1)) = 0 then (some (wrap64 (x1_2 + 2))) else (grommetref09_gap.l1 k2 a0 (wrap64 (x1_2 + 2)) (wrap64 (x7_2 - 1)))) else (grommetref09_gap.l1 k2 a0 (wrap64 (x1_2 + 1)) x7_2))) = some r := H
                  have A24 := Aside0.mk A240
                  clear A240
                  by_cases c25 : t116 = true
                  · subst c25
                    have H1 : (grommetref09_gap.l1 k2 a0 (wrap64 (x1_2 + 2)) (wrap64 (x7_2 + 1))) = some r := by rw [if_pos rfl] at H; exact H
                    clear H
                    have H := H1
                    clear H1
                    have H' := Aside0.mk H
                    clear H
                    go_wp2_with (first | ((with_reducible refine gate_callee (f := 26) rfl ?_); refine goesL_ (some 69) rfl rfl Tryd.func26 (by kernel_rfl) rfl #[.string a0, .int .i64 x1_2, .int .u8 40, .int .u8 59] rfl (by (try simp only [List.map_toArray, List.map_cons, List.map_nil]); first | done | rfl | (simp only [List.length_drop, List.length_take]; rfl)) ?_; (with_reducible refine (grommetref09_two.calls a0 x1_2 40 59 true _ A23.out).mono ?_); rintro e w' ⟨rfl, ⟨nd, rfl⟩⟩; refine ⟨_, rfl, ?_⟩) | ((with_reducible refine gate_callee (f := 26) rfl ?_); refine goesL_ (some 72) rfl rfl Tryd.func26 (by kernel_rfl) rfl #[.string a0, .int .i64 x1_2, .int .u8 59, .int .u8 41] rfl (by (try simp only [List.map_toArray, List.map_cons, List.map_nil]); first | done | rfl | (simp only [List.length_drop, List.length_take]; rfl)) ?_; (with_reducible refine (grommetref09_two.calls a0 x1_2 59 41 t117 _ A24.out).mono ?_); rintro e w' ⟨rfl, ⟨nd, rfl⟩⟩; refine ⟨_, rfl, ?_⟩))
                    go_roundg k2
                    case measure => have := HJ2.out; have := HK2.out; omega
                    case rel => exact ⟨(wrap64 (x1_2 + 2)), (wrap64 (x7_2 + 1)), (by first | rfl | (simp; done) | (simp [*]; done)), (by first | rfl | (simp; done) | (simp [*]; done)), H', ⟨by have := HJ2.out; have := HK2.out; omega⟩, by repeat (first | exact Drawn0.refl _ | apply Drawn0.step)⟩
                  · replace c25 := Bool.eq_false_iff.mpr c25
                    subst c25
                    have H1 : (if t117 = true then (if (wrap64 (x7_2 - 1)) = 0 then (some (wrap64 (x1_2 + 2))) else (grommetref09_gap.l1 k2 a0 (wrap64 (x1_2 + 2)) (wrap64 (x7_2 - 1)))) else (grommetref09_gap.l1 k2 a0 (wrap64 (x1_2 + 1)) x7_2)) = some r := by rw [if_neg (show ¬ (false = true) by decide)] at H; exact H
                    clear H
                    have H := H1
                    clear H1
                    by_cases c26 : t117 = true
                    · subst c26
                      have H1 : (if (wrap64 (x7_2 - 1)) = 0 then (some (wrap64 (x1_2 + 2))) else (grommetref09_gap.l1 k2 a0 (wrap64 (x1_2 + 2)) (wrap64 (x7_2 - 1)))) = some r := by rw [if_pos rfl] at H; exact H
                      clear H
                      have H := H1
                      clear H1
                      by_cases c27 : (wrap64 (x7_2 - 1)) = 0
                      · rw [if_pos c27] at H
                        have c27b0 : ((wrap64 (x7_2 - 1)) == 0) = true := beq_iff_eq.mpr c27
                        have c27b1 : ((wrap64 (x7_2 - 1)) != 0) = false := bne_eq_false_iff_eq.mpr c27
                        clear c27
                        obtain rfl := Option.some.inj H
                        go_wp2_with (first | ((with_reducible refine gate_callee (f := 26) rfl ?_); refine goesL_ (some 69) rfl rfl Tryd.func26 (by kernel_rfl) rfl #[.string a0, .int .i64 x1_2, .int .u8 40, .int .u8 59] rfl (by (try simp only [List.map_toArray, List.map_cons, List.map_nil]); first | done | rfl | (simp only [List.length_drop, List.length_take]; rfl)) ?_; (with_reducible refine (grommetref09_two.calls a0 x1_2 40 59 false _ A23.out).mono ?_); rintro e w' ⟨rfl, ⟨nd, rfl⟩⟩; refine ⟨_, rfl, ?_⟩) | ((with_reducible refine gate_callee (f := 26) rfl ?_); refine goesL_ (some 72) rfl rfl Tryd.func26 (by kernel_rfl) rfl #[.string a0, .int .i64 x1_2, .int .u8 59, .int .u8 41] rfl (by (try simp only [List.map_toArray, List.map_cons, List.map_nil]); first | done | rfl | (simp only [List.length_drop, List.length_take]; rfl)) ?_; (with_reducible refine (grommetref09_two.calls a0 x1_2 59 41 true _ A24.out).mono ?_); rintro e w' ⟨rfl, ⟨nd, rfl⟩⟩; refine ⟨_, rfl, ?_⟩))
                        go_ret
                        exact ⟨by first | rfl | (simp; done) | (simp [*]; done), by repeat (first | exact Drawn0.refl _ | apply Drawn0.step)⟩
                      · rw [if_neg c27] at H
                        have c27b0 : ((wrap64 (x7_2 - 1)) == 0) = false := beq_eq_false_iff_ne.mpr c27
                        have c27b1 : ((wrap64 (x7_2 - 1)) != 0) = true := bne_iff_ne.mpr c27
                        have H' := Aside0.mk H
                        clear H
                        go_wp2_with (first | ((with_reducible refine gate_callee (f := 26) rfl ?_); refine goesL_ (some 69) rfl rfl Tryd.func26 (by kernel_rfl) rfl #[.string a0, .int .i64 x1_2, .int .u8 40, .int .u8 59] rfl (by (try simp only [List.map_toArray, List.map_cons, List.map_nil]); first | done | rfl | (simp only [List.length_drop, List.length_take]; rfl)) ?_; (with_reducible refine (grommetref09_two.calls a0 x1_2 40 59 false _ A23.out).mono ?_); rintro e w' ⟨rfl, ⟨nd, rfl⟩⟩; refine ⟨_, rfl, ?_⟩) | ((with_reducible refine gate_callee (f := 26) rfl ?_); refine goesL_ (some 72) rfl rfl Tryd.func26 (by kernel_rfl) rfl #[.string a0, .int .i64 x1_2, .int .u8 59, .int .u8 41] rfl (by (try simp only [List.map_toArray, List.map_cons, List.map_nil]); first | done | rfl | (simp only [List.length_drop, List.length_take]; rfl)) ?_; (with_reducible refine (grommetref09_two.calls a0 x1_2 59 41 true _ A24.out).mono ?_); rintro e w' ⟨rfl, ⟨nd, rfl⟩⟩; refine ⟨_, rfl, ?_⟩))
                        go_roundg k2
                        case measure => have := HJ2.out; have := HK2.out; omega
                        case rel => exact ⟨(wrap64 (x1_2 + 2)), (wrap64 (x7_2 - 1)), (by first | rfl | (simp; done) | (simp [*]; done)), (by first | rfl | (simp; done) | (simp [*]; done)), H', ⟨by have := HJ2.out; have := HK2.out; omega⟩, by repeat (first | exact Drawn0.refl _ | apply Drawn0.step)⟩
                    · replace c26 := Bool.eq_false_iff.mpr c26
                      subst c26
                      have H1 : (grommetref09_gap.l1 k2 a0 (wrap64 (x1_2 + 1)) x7_2) = some r := by rw [if_neg (show ¬ (false = true) by decide)] at H; exact H
                      clear H
                      have H := H1
                      clear H1
                      have H' := Aside0.mk H
                      clear H
                      go_wp2_with (first | ((with_reducible refine gate_callee (f := 26) rfl ?_); refine goesL_ (some 69) rfl rfl Tryd.func26 (by kernel_rfl) rfl #[.string a0, .int .i64 x1_2, .int .u8 40, .int .u8 59] rfl (by (try simp only [List.map_toArray, List.map_cons, List.map_nil]); first | done | rfl | (simp only [List.length_drop, List.length_take]; rfl)) ?_; (with_reducible refine (grommetref09_two.calls a0 x1_2 40 59 false _ A23.out).mono ?_); rintro e w' ⟨rfl, ⟨nd, rfl⟩⟩; refine ⟨_, rfl, ?_⟩) | ((with_reducible refine gate_callee (f := 26) rfl ?_); refine goesL_ (some 72) rfl rfl Tryd.func26 (by kernel_rfl) rfl #[.string a0, .int .i64 x1_2, .int .u8 59, .int .u8 41] rfl (by (try simp only [List.map_toArray, List.map_cons, List.map_nil]); first | done | rfl | (simp only [List.length_drop, List.length_take]; rfl)) ?_; (with_reducible refine (grommetref09_two.calls a0 x1_2 59 41 false _ A24.out).mono ?_); rintro e w' ⟨rfl, ⟨nd, rfl⟩⟩; refine ⟨_, rfl, ?_⟩))
                      go_roundg k2
                      case measure => have := HJ2.out; have := HK2.out; omega
                      case rel => exact ⟨(wrap64 (x1_2 + 1)), (x7_2), (by first | rfl | (simp; done) | (simp [*]; done)), (by first | rfl | (simp; done) | (simp [*]; done)), H', ⟨by have := HJ2.out; have := HK2.out; omega⟩, by repeat (first | exact Drawn0.refl _ | apply Drawn0.step)⟩
                · rw [if_neg c22] at H
                  have c22b0 : decide (x1_2 < (a0.size : Int)) = false := decide_eq_false c22
                  clear c22
                  obtain rfl := Option.some.inj H
                  go_wp2
                  go_ret
                  exact ⟨by first | rfl | (simp; done) | (simp [*]; done), by repeat (first | exact Drawn0.refl _ | apply Drawn0.step)⟩
          · replace c21 := Bool.eq_false_iff.mpr c21
            subst c21
            have H1 : (some a1) = some r := by rw [if_neg (show ¬ (false = true) by decide)] at H; exact H
            clear H
            have H := H1
            clear H1
            obtain rfl := Option.some.inj H
            go_wp2_with (first | ((with_reducible refine gate_callee (f := 26) rfl ?_); refine goesL_ (some 36) rfl rfl Tryd.func26 (by kernel_rfl) rfl #[.string a0, .int .i64 a1, .int .u8 59, .int .u8 59] rfl (by (try simp only [List.map_toArray, List.map_cons, List.map_nil]); first | done | rfl | (simp only [List.length_drop, List.length_take]; rfl)) ?_; (with_reducible refine (grommetref09_two.calls a0 a1 59 59 false _ A14.out).mono ?_); rintro e w' ⟨rfl, ⟨nd, rfl⟩⟩; refine ⟨_, rfl, ?_⟩) | ((with_reducible refine gate_callee (f := 26) rfl ?_); refine goesL_ (some 59) rfl rfl Tryd.func26 (by kernel_rfl) rfl #[.string a0, .int .i64 a1, .int .u8 40, .int .u8 59] rfl (by (try simp only [List.map_toArray, List.map_cons, List.map_nil]); first | done | rfl | (simp only [List.length_drop, List.length_take]; rfl)) ?_; (with_reducible refine (grommetref09_two.calls a0 a1 40 59 false _ A20.out).mono ?_); rintro e w' ⟨rfl, ⟨nd, rfl⟩⟩; refine ⟨_, rfl, ?_⟩))
            go_ret
            exact ⟨by first | rfl | (simp; done) | (simp [*]; done), by repeat (first | exact Drawn0.refl _ | apply Drawn0.step)⟩

end Go.Proofs.YtaidpcmndmjceaaDoor.RLexScans
