-- Made by the program wip/patchprint.py (this session's own, over the kit's print)
import Derived.Test.YtgplakhkofchiaaDoorRNumEvalsx0
import Derived.Test.YtgplakhkofchiaaDoorRNumEvalsx1
import Derived.Test.YtgplakhkofchiaaDoorRNumEvalsx2
namespace Go.Proofs.YtgplakhkofchiaaDoor.RNumEvals
open Go.RowKit Go.Proofs.YtgplakhkofchiaaDoor.Man Go.Proofs.YtgplakhkofchiaaDoorW.PrintWords Go.Proofs.YtgplakhkofchiaaDoorW.PrintLast Go.Proofs.YtgplakhkofchiaaDoorW.PrintMore
attribute [local go_sem] max2_int min2_int max_two min_two max_three min_three max_four min_four   -- for this text's walks alone
set_option linter.unusedVariables false
set_option linter.unusedSimpArgs false
set_option linter.unnecessarySimpa false

attribute [local go_sem] err_eql err_neq err_nil_eql err_nil_neq
attribute [local simp] shl_zero
/-! ### num_two: function 21 -/
def num_two.j0 : Nat → Int → Int → Int → Int → Int → Int → Bool → Option (Int × Int)
  | 0, _, _, _, _, _, _, _ => none
  | k + 1, x0, x1, x2, x3, x10, x16, x32 => if x32 = true then ((num_divided.f k (wrap64 (x0 - 3)) x1 x2 x3).bind fun bt115 => (some (bt115.1, bt115.2))) else (if x16 = 7 then (some (Go.bits .and .u64 x1 x2, 0)) else (if x16 = 8 then (some (Go.bits .or .u64 x1 x2, 0)) else (if x16 = 9 then (some (Go.bits .xor .u64 x1 x2, 0)) else (if x16 = 10 then (if 0 ≤ x10 then (some (shl .u64 x1 x10, 0)) else (none)) else (if x16 = 11 then ((num_signed.f x1 x3).bind fun t117 => (if 0 ≤ x10 then (some (IntKind.u64.wrap (shr .i64 t117 x10), 0)) else (none))) else (if x16 = 12 then (if 0 ≤ x10 then (some (shr .u64 x1 x10, 0)) else (none)) else (if x16 = 13 then ((num_turned.f x1 x10 x3).bind fun t118 => (some (t118, 0))) else ((num_turned.f x1 (wrap64 (-x10)) x3).bind fun t119 => (some (t119, 0))))))))))
def num_two.f (k : Nat) (a0 : Int) (a1 : Int) (a2 : Int) (a3 : Int) : Option (Int × Int) := if (IntKind.u64.wrap (a3)) = 0 then (none) else (if a0 = 0 then (some (IntKind.u64.wrap (a1 + a2), 0)) else (if a0 = 1 then (some (IntKind.u64.wrap (a1 - a2), 0)) else (if a0 = 2 then (some (IntKind.u64.wrap (a1 * a2), 0)) else (if a0 = 3 then (num_two.j0 k a0 a1 a2 a3 (wrap64 (Int.tmod a2 (IntKind.u64.wrap (a3)))) a0 (a0 == 3)) else (if a0 = 4 then (num_two.j0 k a0 a1 a2 a3 (wrap64 (Int.tmod a2 (IntKind.u64.wrap (a3)))) a0 (a0 == 4)) else (if a0 = 5 then (num_two.j0 k a0 a1 a2 a3 (wrap64 (Int.tmod a2 (IntKind.u64.wrap (a3)))) a0 (a0 == 5)) else (num_two.j0 k a0 a1 a2 a3 (wrap64 (Int.tmod a2 (IntKind.u64.wrap (a3)))) a0 (a0 == 6))))))))
theorem num_two.mono_l : ∀ k, (∀ y0 y1 y2 y3 y4 y5 y6, LeO (num_two.j0 k y0 y1 y2 y3 y4 y5 y6) (num_two.j0 (k + 1) y0 y1 y2 y3 y4 y5 y6))
  | 0 => fun _ _ _ _ _ _ _ r h => by simp [num_two.j0] at h
  | k + 1 => by
    have ih0 := num_two.mono_l k
    · intro y0 y1 y2 y3 y4 y5 y6
      unfold num_two.j0
      repeat' first
      | (with_reducible exact ih0 _ _ _ _ _ _ _)
      | (with_reducible exact num_divided.mono _ _ _ _ _)
      | (with_reducible exact LeO.refl _)
      | (with_reducible exact LeO.none _)
      | (with_reducible refine LeO.ite ?_ ?_)
      | (with_reducible refine LeO.bind ?_ (fun _ => ?_))
      | exact ih0 _ _ _ _ _ _ _
      | exact num_divided.mono _ _ _ _ _
      | exact LeO.none _
      | refine LeO.ite ?_ ?_
      | refine LeO.bind ?_ (fun _ => ?_)
theorem num_two.mono : ∀ a0 a1 a2 a3 k, LeO (num_two.f k a0 a1 a2 a3) (num_two.f (k + 1) a0 a1 a2 a3) := by
  intro a0 a1 a2 a3 k
  have ih0 := num_two.mono_l k
  unfold num_two.f
  repeat' first
      | (with_reducible exact ih0 _ _ _ _ _ _ _)
      | (with_reducible exact num_divided.mono _ _ _ _ _)
      | (with_reducible exact LeO.refl _)
      | (with_reducible exact LeO.none _)
      | (with_reducible refine LeO.ite ?_ ?_)
      | (with_reducible refine LeO.bind ?_ (fun _ => ?_))
      | exact ih0 _ _ _ _ _ _ _
      | exact num_divided.mono _ _ _ _ _
      | exact LeO.none _
      | refine LeO.ite ?_ ?_
      | refine LeO.bind ?_ (fun _ => ?_)
set_option maxHeartbeats 8000000 in
set_option maxRecDepth 100000 in
theorem num_two.calls (k : Nat) (a0 : Int) (a1 : Int) (a2 : Int) (a3 : Int) (r1 : Int) (r2 : Int) (w : World) (h : num_two.f k a0 a1 a2 a3 = some (r1, r2)) :
    Calls Tryd.prog 21 #[.int .i64 a0, .int .u64 a1, .int .u64 a2, .int .i64 a3] w fun e w' => e = .returned (.tuple #[.int .u64 r1, .int .i64 r2]) ∧ Drawn0 w w' := by
  have H : (if (IntKind.u64.wrap (a3)) = 0 then (none) else (if a0 = 0 then (some (IntKind.u64.wrap (a1 + a2), 0)) else (if a0 = 1 then (some (IntKind.u64.wrap (a1 - a2), 0)) else (if a0 = 2 then (some (IntKind.u64.wrap (a1 * a2), 0)) else (if a0 = 3 then (num_two.j0 k a0 a1 a2 a3 (wrap64 (Int.tmod a2 (IntKind.u64.wrap (a3)))) a0 (a0 == 3)) else (if a0 = 4 then (num_two.j0 k a0 a1 a2 a3 (wrap64 (Int.tmod a2 (IntKind.u64.wrap (a3)))) a0 (a0 == 4)) else (if a0 = 5 then (num_two.j0 k a0 a1 a2 a3 (wrap64 (Int.tmod a2 (IntKind.u64.wrap (a3)))) a0 (a0 == 5)) else (num_two.j0 k a0 a1 a2 a3 (wrap64 (Int.tmod a2 (IntKind.u64.wrap (a3)))) a0 (a0 == 6))))))))) = some (r1, r2) := h
  clear h
  by_cases c5 : (IntKind.u64.wrap (a3)) = 0
  · rw [if_pos c5] at H
    exact absurd H (by simp)
  · rw [if_neg c5] at H
    have c5b0 : ((IntKind.u64.wrap (a3)) == 0) = false := beq_eq_false_iff_ne.mpr c5
    have c5b1 : ((IntKind.u64.wrap (a3)) != 0) = true := bne_iff_ne.mpr c5
    by_cases c6 : a0 = 0
    · rw [if_pos c6] at H
      have c6b0 : (a0 == 0) = true := beq_iff_eq.mpr c6
      have c6b1 : (a0 != 0) = false := bne_eq_false_iff_eq.mpr c6
      clear c6
      simp only [Option.some.injEq, Prod.mk.injEq] at H
      obtain ⟨rfl, rfl⟩ := H
      go_enter Tryd.func21, Tryd.ntmps21
      go_wp2
      go_ret2
      exact ⟨by first | rfl | (simp; done) | (simp [*]; done), by repeat (first | exact Drawn0.refl _ | apply Drawn0.step)⟩
    · rw [if_neg c6] at H
      have c6b0 : (a0 == 0) = false := beq_eq_false_iff_ne.mpr c6
      have c6b1 : (a0 != 0) = true := bne_iff_ne.mpr c6
      by_cases c7 : a0 = 1
      · rw [if_pos c7] at H
        have c7b0 : (a0 == 1) = true := beq_iff_eq.mpr c7
        have c7b1 : (a0 != 1) = false := bne_eq_false_iff_eq.mpr c7
        clear c7
        simp only [Option.some.injEq, Prod.mk.injEq] at H
        obtain ⟨rfl, rfl⟩ := H
        go_enter Tryd.func21, Tryd.ntmps21
        go_wp2
        go_ret2
        exact ⟨by first | rfl | (simp; done) | (simp [*]; done), by repeat (first | exact Drawn0.refl _ | apply Drawn0.step)⟩
      · rw [if_neg c7] at H
        have c7b0 : (a0 == 1) = false := beq_eq_false_iff_ne.mpr c7
        have c7b1 : (a0 != 1) = true := bne_iff_ne.mpr c7
        by_cases c8 : a0 = 2
        · rw [if_pos c8] at H
          have c8b0 : (a0 == 2) = true := beq_iff_eq.mpr c8
          have c8b1 : (a0 != 2) = false := bne_eq_false_iff_eq.mpr c8
          clear c8
          simp only [Option.some.injEq, Prod.mk.injEq] at H
          obtain ⟨rfl, rfl⟩ := H
          go_enter Tryd.func21, Tryd.ntmps21
          go_wp2
          go_ret2
          exact ⟨by first | rfl | (simp; done) | (simp [*]; done), by repeat (first | exact Drawn0.refl _ | apply Drawn0.step)⟩
        · rw [if_neg c8] at H
          have c8b0 : (a0 == 2) = false := beq_eq_false_iff_ne.mpr c8
          have c8b1 : (a0 != 2) = true := bne_iff_ne.mpr c8
          have HC9 := Aside0.mk H
          clear H
          go_enter Tryd.func21, Tryd.ntmps21
          go_upto_if 32 with (fail)
          go_cut [32] (fun v32 wc => ∃ (kq : Nat) (x32_8 : Bool), v32 = .bool x32_8 ∧ Aside0 (num_two.j0 kq a0 a1 a2 a3 (wrap64 (Int.tmod a2 (IntKind.u64.wrap (a3)))) a0 x32_8 = some (r1, r2)) ∧ Aside0 (kq ≤ k) ∧ Drawn0 w wc)
          case first =>
            have H := HC9.out
            clear HC9
            by_cases c10 : a0 = 3
            · rw [if_pos c10] at H
              have c10b0 : (a0 == 3) = true := beq_iff_eq.mpr c10
              have c10b1 : (a0 != 3) = false := bne_eq_false_iff_eq.mpr c10
              clear c10
              (first | rw [c10b0] | (simp only [i64_w, i32_w]; rw [c10b0]) | skip)
              have H' := Aside0.mk H
              clear H
              go_wp2
              go_meet
              case rel => exact ⟨_, ((a0 == 3)), (by first | rfl | (simp; done) | (simp [*]; done)), H', ⟨by first | omega | exact Nat.le_refl _⟩, by repeat (first | exact Drawn0.refl _ | apply Drawn0.step)⟩
            · rw [if_neg c10] at H
              have c10b0 : (a0 == 3) = false := beq_eq_false_iff_ne.mpr c10
              have c10b1 : (a0 != 3) = true := bne_iff_ne.mpr c10
              (first | rw [c10b0] | (simp only [i64_w, i32_w]; rw [c10b0]) | skip)
              by_cases c11 : a0 = 4
              · rw [if_pos c11] at H
                have c11b0 : (a0 == 4) = true := beq_iff_eq.mpr c11
                have c11b1 : (a0 != 4) = false := bne_eq_false_iff_eq.mpr c11
                clear c11
                have H' := Aside0.mk H
                clear H
                go_wp2
                go_meet
                case rel => exact ⟨_, ((a0 == 4)), (by first | rfl | (simp; done) | (simp [*]; done)), H', ⟨by first | omega | exact Nat.le_refl _⟩, by repeat (first | exact Drawn0.refl _ | apply Drawn0.step)⟩
              · rw [if_neg c11] at H
                have c11b0 : (a0 == 4) = false := beq_eq_false_iff_ne.mpr c11
                have c11b1 : (a0 != 4) = true := bne_iff_ne.mpr c11
                by_cases c12 : a0 = 5
                · rw [if_pos c12] at H
                  have c12b0 : (a0 == 5) = true := beq_iff_eq.mpr c12
                  have c12b1 : (a0 != 5) = false := bne_eq_false_iff_eq.mpr c12
                  clear c12
                  have H' := Aside0.mk H
                  clear H
                  go_wp2
                  go_meet
                  case rel => exact ⟨_, ((a0 == 5)), (by first | rfl | (simp; done) | (simp [*]; done)), H', ⟨by first | omega | exact Nat.le_refl _⟩, by repeat (first | exact Drawn0.refl _ | apply Drawn0.step)⟩
                · rw [if_neg c12] at H
                  have c12b0 : (a0 == 5) = false := beq_eq_false_iff_ne.mpr c12
                  have c12b1 : (a0 != 5) = true := bne_iff_ne.mpr c12
                  have H' := Aside0.mk H
                  clear H
                  go_wp2
                  go_meet
                  case rel => exact ⟨_, ((a0 == 6)), (by first | rfl | (simp; done) | (simp [*]; done)), H', ⟨by first | omega | exact Nat.le_refl _⟩, by repeat (first | exact Drawn0.refl _ | apply Drawn0.step)⟩
          case rest =>
            clear HC9
            try clear c1
            try clear c2
            try clear p2
            try clear c5
            try clear c5b0
            try clear c5b1
            try clear c6
            try clear c6b0
            try clear c6b1
            try clear p6
            try clear c7
            try clear c7b0
            try clear c7b1
            try clear c8
            try clear c8b0
            try clear c8b1
            try clear c10
            try clear c10b0
            try clear c10b1
            try clear c11
            try clear c11b0
            try clear c11b1
            try clear c12
            try clear c12b0
            try clear c12b1
            obtain ⟨kq, x32_8, rfl, HA, HJ8, ⟨mc8, rfl⟩⟩ := hcut
            cases kq with
            | zero => exact absurd HA.out (by simp [num_two.j0])
            | succ kj8 =>
              have H := HA.out
              clear HA
              simp only [num_two.j0] at H
              by_cases c13 : x32_8 = true
              · subst c13
                have H1 : ((num_divided.f kj8 (wrap64 (a0 - 3)) a1 a2 a3).bind fun bt115 => (some (bt115.1, bt115.2))) = some (r1, r2) := by rw [if_pos rfl] at H; exact H
                clear H
                have H := H1
                clear H1
                replace H := Option.bind_eq_some_iff.mp H
                obtain ⟨⟨t115, t116⟩, A140, H⟩ := H
                replace H : (some (t115, t116)) = some (r1, r2) := H
                have A14 := Aside0.mk A140
                clear A140
                simp only [Option.some.injEq, Prod.mk.injEq] at H
                obtain ⟨rfl, rfl⟩ := H
                go_wp2_with (first | ((with_reducible refine gate_callee (f := 31) rfl ?_); refine goesL_ (some 42) rfl rfl Tryd.func31 (by kernel_rfl) rfl #[.int .i64 (wrap64 (a0 - 3)), .int .u64 a1, .int .u64 a2, .int .i64 a3] rfl (by (try simp only [List.map_toArray, List.map_cons, List.map_nil]); first | done | rfl | (simp only [List.length_drop, List.length_take]; rfl)) ?_; (with_reducible refine (num_divided.calls kj8 (wrap64 (a0 - 3)) a1 a2 a3 t115 t116 _ A14.out).mono ?_); rintro e w' ⟨rfl, ⟨nd, rfl⟩⟩; refine ⟨_, rfl, ?_⟩))
                go_ret2
                exact ⟨by first | rfl | (simp; done) | (simp [*]; done), by repeat (first | exact Drawn0.refl _ | apply Drawn0.step)⟩
              · replace c13 := Bool.eq_false_iff.mpr c13
                subst c13
                have H1 : (if a0 = 7 then (some (Go.bits .and .u64 a1 a2, 0)) else (if a0 = 8 then (some (Go.bits .or .u64 a1 a2, 0)) else (if a0 = 9 then (some (Go.bits .xor .u64 a1 a2, 0)) else (if a0 = 10 then (if 0 ≤ (wrap64 (Int.tmod a2 (IntKind.u64.wrap (a3)))) then (some (shl .u64 a1 (wrap64 (Int.tmod a2 (IntKind.u64.wrap (a3)))), 0)) else (none)) else (if a0 = 11 then ((num_signed.f a1 a3).bind fun t117 => (if 0 ≤ (wrap64 (Int.tmod a2 (IntKind.u64.wrap (a3)))) then (some (IntKind.u64.wrap (shr .i64 t117 (wrap64 (Int.tmod a2 (IntKind.u64.wrap (a3))))), 0)) else (none))) else (if a0 = 12 then (if 0 ≤ (wrap64 (Int.tmod a2 (IntKind.u64.wrap (a3)))) then (some (shr .u64 a1 (wrap64 (Int.tmod a2 (IntKind.u64.wrap (a3)))), 0)) else (none)) else (if a0 = 13 then ((num_turned.f a1 (wrap64 (Int.tmod a2 (IntKind.u64.wrap (a3)))) a3).bind fun t118 => (some (t118, 0))) else ((num_turned.f a1 (wrap64 (-(wrap64 (Int.tmod a2 (IntKind.u64.wrap (a3)))))) a3).bind fun t119 => (some (t119, 0)))))))))) = some (r1, r2) := by rw [if_neg (show ¬ (false = true) by decide)] at H; exact H
                clear H
                have H := H1
                clear H1
                by_cases c15 : a0 = 7
                · rw [if_pos c15] at H
                  have c15b0 : (a0 == 7) = true := beq_iff_eq.mpr c15
                  have c15b1 : (a0 != 7) = false := bne_eq_false_iff_eq.mpr c15
                  clear c15
                  simp only [Option.some.injEq, Prod.mk.injEq] at H
                  obtain ⟨rfl, rfl⟩ := H
                  go_wp2
                  go_ret2
                  exact ⟨by first | rfl | (simp; done) | (simp [*]; done), by repeat (first | exact Drawn0.refl _ | apply Drawn0.step)⟩
                · rw [if_neg c15] at H
                  have c15b0 : (a0 == 7) = false := beq_eq_false_iff_ne.mpr c15
                  have c15b1 : (a0 != 7) = true := bne_iff_ne.mpr c15
                  by_cases c16 : a0 = 8
                  · rw [if_pos c16] at H
                    have c16b0 : (a0 == 8) = true := beq_iff_eq.mpr c16
                    have c16b1 : (a0 != 8) = false := bne_eq_false_iff_eq.mpr c16
                    clear c16
                    simp only [Option.some.injEq, Prod.mk.injEq] at H
                    obtain ⟨rfl, rfl⟩ := H
                    go_wp2
                    go_ret2
                    exact ⟨by first | rfl | (simp; done) | (simp [*]; done), by repeat (first | exact Drawn0.refl _ | apply Drawn0.step)⟩
                  · rw [if_neg c16] at H
                    have c16b0 : (a0 == 8) = false := beq_eq_false_iff_ne.mpr c16
                    have c16b1 : (a0 != 8) = true := bne_iff_ne.mpr c16
                    by_cases c17 : a0 = 9
                    · rw [if_pos c17] at H
                      have c17b0 : (a0 == 9) = true := beq_iff_eq.mpr c17
                      have c17b1 : (a0 != 9) = false := bne_eq_false_iff_eq.mpr c17
                      clear c17
                      simp only [Option.some.injEq, Prod.mk.injEq] at H
                      obtain ⟨rfl, rfl⟩ := H
                      go_wp2
                      go_ret2
                      exact ⟨by first | rfl | (simp; done) | (simp [*]; done), by repeat (first | exact Drawn0.refl _ | apply Drawn0.step)⟩
                    · rw [if_neg c17] at H
                      have c17b0 : (a0 == 9) = false := beq_eq_false_iff_ne.mpr c17
                      have c17b1 : (a0 != 9) = true := bne_iff_ne.mpr c17
                      by_cases c18 : a0 = 10
                      · rw [if_pos c18] at H
                        have c18b0 : (a0 == 10) = true := beq_iff_eq.mpr c18
                        have c18b1 : (a0 != 10) = false := bne_eq_false_iff_eq.mpr c18
                        clear c18
                        obtain ⟨ji19, hji19⟩ : ∃ j_ : Int, (wrap64 (Int.tmod a2 (IntKind.u64.wrap (a3)))) = j_ := ⟨_, rfl⟩
                        replace H : (if 0 ≤ (ji19) then (some (shl .u64 a1 (ji19), 0)) else (none)) = some (r1, r2) := by first | (rw [hji19] at H; exact H) | (simp only [hji19] at H ⊢; exact H)
                        have hji19w : (IntKind.i64.wrap (Int.tmod a2 (IntKind.u64.wrap (a3)))) = ji19 := (i64_w _).trans hji19
                        by_cases c20 : 0 ≤ (ji19)
                        · rw [if_pos c20] at H
                          have c20b0 := eq_true c20
                          have c20b1 : decide (0 ≤ (ji19)) = true := decide_eq_true c20
                          clear c20
                          obtain ⟨ji21, hji21⟩ : ∃ j_ : Int, (shl .u64 a1 (ji19)) = j_ := ⟨_, rfl⟩
                          replace H : (some (ji21, 0)) = some (r1, r2) := by first | (rw [hji21] at H; exact H) | (simp only [hji21] at H ⊢; exact H)
                          have hji21_ : (IntKind.u64.wrap (a1 * 2 ^ min (ji19).toNat 64)) = ji21 := hji21
                          have hji21z : (ji19) ≤ 64 → (IntKind.u64.wrap (a1 * 2 ^ (ji19).toNat)) = ji21 := shl_small hji21
                          simp only [Option.some.injEq, Prod.mk.injEq] at H
                          obtain ⟨rfl, rfl⟩ := H
                          go_wp2
                          go_ret2
                          exact ⟨by first | rfl | (simp; done) | (simp only [← hji19, ← hji21] <;> (first | rfl | simp)) | (simp [*]; done), by repeat (first | exact Drawn0.refl _ | apply Drawn0.step)⟩
                        · rw [if_neg c20] at H
                          exact absurd H (by simp)
                      · rw [if_neg c18] at H
                        have c18b0 : (a0 == 10) = false := beq_eq_false_iff_ne.mpr c18
                        have c18b1 : (a0 != 10) = true := bne_iff_ne.mpr c18
                        by_cases c22 : a0 = 11
                        · rw [if_pos c22] at H
                          have c22b0 : (a0 == 11) = true := beq_iff_eq.mpr c22
                          have c22b1 : (a0 != 11) = false := bne_eq_false_iff_eq.mpr c22
                          clear c22
                          replace H := Option.bind_eq_some_iff.mp H
                          obtain ⟨t117, A230, H⟩ := H
                          replace H : (if 0 ≤ (wrap64 (Int.tmod a2 (IntKind.u64.wrap (a3)))) then (some (IntKind.u64.wrap (shr .i64 t117 (wrap64 (Int.tmod a2 (IntKind.u64.wrap (a3))))), 0)) else (none)) = some (r1, r2) := H
                          have A23 := Aside0.mk A230
                          clear A230
                          obtain ⟨ji24, hji24⟩ : ∃ j_ : Int, (wrap64 (Int.tmod a2 (IntKind.u64.wrap (a3)))) = j_ := ⟨_, rfl⟩
                          replace H : (if 0 ≤ (ji24) then (some (IntKind.u64.wrap (shr .i64 t117 (ji24)), 0)) else (none)) = some (r1, r2) := by first | (rw [hji24] at H; exact H) | (simp only [hji24] at H ⊢; exact H)
                          (try rw [hji24] at A23)
                          have hji24w : (IntKind.i64.wrap (Int.tmod a2 (IntKind.u64.wrap (a3)))) = ji24 := (i64_w _).trans hji24
                          by_cases c25 : 0 ≤ (ji24)
                          · rw [if_pos c25] at H
                            have c25b0 := eq_true c25
                            have c25b1 : decide (0 ≤ (ji24)) = true := decide_eq_true c25
                            clear c25
                            obtain ⟨ji26, hji26⟩ : ∃ j_ : Int, (shr .i64 t117 (ji24)) = j_ := ⟨_, rfl⟩
                            replace H : (some (IntKind.u64.wrap (ji26), 0)) = some (r1, r2) := by first | (rw [hji26] at H; exact H) | (simp only [hji26] at H ⊢; exact H)
                            (try rw [hji26] at A23)
                            have hji26_ : (t117 / 2 ^ min (ji24).toNat 64) = ji26 := hji26
                            have hji26z : (ji24) ≤ 64 → (t117 / 2 ^ (ji24).toNat) = ji26 := shr_small hji26
                            simp only [Option.some.injEq, Prod.mk.injEq] at H
                            obtain ⟨rfl, rfl⟩ := H
                            go_wp2_with (first | ((with_reducible refine gate_callee (f := 22) rfl ?_); refine goesL_ (some 69) rfl rfl Tryd.func22 (by kernel_rfl) rfl #[.int .u64 a1, .int .i64 a3] rfl (by (try simp only [List.map_toArray, List.map_cons, List.map_nil]); first | done | rfl | (simp only [List.length_drop, List.length_take]; rfl)) ?_; (with_reducible refine (num_signed.calls a1 a3 t117 _ A23.out).mono ?_); rintro e w' ⟨rfl, ⟨nd, rfl⟩⟩; refine ⟨_, rfl, ?_⟩))
                            go_ret2
                            exact ⟨by first | rfl | (simp; done) | (simp only [← hji24, ← hji26] <;> (first | rfl | simp)) | (simp [*]; done), by repeat (first | exact Drawn0.refl _ | apply Drawn0.step)⟩
                          · rw [if_neg c25] at H
                            exact absurd H (by simp)
                        · rw [if_neg c22] at H
                          have c22b0 : (a0 == 11) = false := beq_eq_false_iff_ne.mpr c22
                          have c22b1 : (a0 != 11) = true := bne_iff_ne.mpr c22
                          by_cases c27 : a0 = 12
                          · rw [if_pos c27] at H
                            have c27b0 : (a0 == 12) = true := beq_iff_eq.mpr c27
                            have c27b1 : (a0 != 12) = false := bne_eq_false_iff_eq.mpr c27
                            clear c27
                            obtain ⟨ji28, hji28⟩ : ∃ j_ : Int, (wrap64 (Int.tmod a2 (IntKind.u64.wrap (a3)))) = j_ := ⟨_, rfl⟩
                            replace H : (if 0 ≤ (ji28) then (some (shr .u64 a1 (ji28), 0)) else (none)) = some (r1, r2) := by first | (rw [hji28] at H; exact H) | (simp only [hji28] at H ⊢; exact H)
                            have hji28w : (IntKind.i64.wrap (Int.tmod a2 (IntKind.u64.wrap (a3)))) = ji28 := (i64_w _).trans hji28
                            by_cases c29 : 0 ≤ (ji28)
                            · rw [if_pos c29] at H
                              have c29b0 := eq_true c29
                              have c29b1 : decide (0 ≤ (ji28)) = true := decide_eq_true c29
                              clear c29
                              obtain ⟨ji30, hji30⟩ : ∃ j_ : Int, (shr .u64 a1 (ji28)) = j_ := ⟨_, rfl⟩
                              replace H : (some (ji30, 0)) = some (r1, r2) := by first | (rw [hji30] at H; exact H) | (simp only [hji30] at H ⊢; exact H)
                              have hji30_ : (a1 / 2 ^ min (ji28).toNat 64) = ji30 := hji30
                              have hji30z : (ji28) ≤ 64 → (a1 / 2 ^ (ji28).toNat) = ji30 := shr_small hji30
                              simp only [Option.some.injEq, Prod.mk.injEq] at H
                              obtain ⟨rfl, rfl⟩ := H
                              go_wp2
                              go_ret2
                              exact ⟨by first | rfl | (simp; done) | (simp only [← hji28, ← hji30] <;> (first | rfl | simp)) | (simp [*]; done), by repeat (first | exact Drawn0.refl _ | apply Drawn0.step)⟩
                            · rw [if_neg c29] at H
                              exact absurd H (by simp)
                          · rw [if_neg c27] at H
                            have c27b0 : (a0 == 12) = false := beq_eq_false_iff_ne.mpr c27
                            have c27b1 : (a0 != 12) = true := bne_iff_ne.mpr c27
                            by_cases c31 : a0 = 13
                            · rw [if_pos c31] at H
                              have c31b0 : (a0 == 13) = true := beq_iff_eq.mpr c31
                              have c31b1 : (a0 != 13) = false := bne_eq_false_iff_eq.mpr c31
                              clear c31
                              replace H := Option.bind_eq_some_iff.mp H
                              obtain ⟨t118, A320, H⟩ := H
                              replace H : (some (t118, 0)) = some (r1, r2) := H
                              have A32 := Aside0.mk A320
                              clear A320
                              simp only [Option.some.injEq, Prod.mk.injEq] at H
                              obtain ⟨rfl, rfl⟩ := H
                              go_wp2_with (first | ((with_reducible refine gate_callee (f := 32) rfl ?_); refine goesL_ (some 83) rfl rfl Tryd.func32 (by kernel_rfl) rfl #[.int .u64 a1, .int .i64 (wrap64 (Int.tmod a2 (IntKind.u64.wrap (a3)))), .int .i64 a3] rfl (by (try simp only [List.map_toArray, List.map_cons, List.map_nil]); first | done | rfl | (simp only [List.length_drop, List.length_take]; rfl)) ?_; (with_reducible refine (num_turned.calls a1 (wrap64 (Int.tmod a2 (IntKind.u64.wrap (a3)))) a3 t118 _ A32.out).mono ?_); rintro e w' ⟨rfl, ⟨nd, rfl⟩⟩; refine ⟨_, rfl, ?_⟩))
                              go_ret2
                              exact ⟨by first | rfl | (simp; done) | (simp [*]; done), by repeat (first | exact Drawn0.refl _ | apply Drawn0.step)⟩
                            · rw [if_neg c31] at H
                              have c31b0 : (a0 == 13) = false := beq_eq_false_iff_ne.mpr c31
                              have c31b1 : (a0 != 13) = true := bne_iff_ne.mpr c31
                              replace H := Option.bind_eq_some_iff.mp H
                              obtain ⟨t119, A330, H⟩ := H
                              replace H : (some (t119, 0)) = some (r1, r2) := H
                              have A33 := Aside0.mk A330
                              clear A330
                              simp only [Option.some.injEq, Prod.mk.injEq] at H
                              obtain ⟨rfl, rfl⟩ := H
                              go_wp2_with (first | ((with_reducible refine gate_callee (f := 32) rfl ?_); refine goesL_ (some 88) rfl rfl Tryd.func32 (by kernel_rfl) rfl #[.int .u64 a1, .int .i64 (wrap64 (-(wrap64 (Int.tmod a2 (IntKind.u64.wrap (a3)))))), .int .i64 a3] rfl (by (try simp only [List.map_toArray, List.map_cons, List.map_nil]); first | done | rfl | (simp only [List.length_drop, List.length_take]; rfl)) ?_; (with_reducible refine (num_turned.calls a1 (wrap64 (-(wrap64 (Int.tmod a2 (IntKind.u64.wrap (a3)))))) a3 t119 _ A33.out).mono ?_); rintro e w' ⟨rfl, ⟨nd, rfl⟩⟩; refine ⟨_, rfl, ?_⟩))
                              go_ret2
                              exact ⟨by first | rfl | (simp; done) | (simp [*]; done), by repeat (first | exact Drawn0.refl _ | apply Drawn0.step)⟩

/-! ### num_Eval: function 13 -/
mutual
def num_Eval.j0 : Nat → List Int → Int → Int → Int → Bool → Option (Int × Int × Option Int)
  | 0, _, _, _, _, _ => none
  | k + 1, x1, x7, x8, x9, x37 => if x37 = true then (some (0, 0, some 1)) else (num_Eval.l0 k x1 x7 x8 x9 x1 (x1.length : Int) 0)
def num_Eval.l0 : Nat → List Int → Int → Int → Int → List Int → Int → Int → Option (Int × Int × Option Int)
  | 0, _, _, _, _, _, _, _ => none
  | k + 1, x1, x7, x8, x9, x39, x40, x41 => if x41 < x40 then (if 0 ≤ x41 then (if x41 < (x39.length : Int) then ((num_cut.f (rd x39 x41) x9).bind fun t127 => (if t127 = (rd x39 x41) then (num_Eval.l0 k x1 x7 x8 x9 x39 x40 (wrap64 (x41 + 1))) else (some (0, 0, some 1)))) else (none)) else (none)) else (if 0 < (x1.length : Int) then (if x7 = 69 then ((num_bit.f ((rd x1 0) == 0)).bind fun t129 => (some (t129, 0, none))) else (if x7 = 70 then (if 1 < (x1.length : Int) then ((num_compare.f x8 (rd x1 0) (rd x1 1) x9).bind fun t131 => ((num_bit.f t131).bind fun t132 => (some (t132, 0, none)))) else (none)) else (if x7 = 103 then ((num_count.f k x8 (rd x1 0) x9).bind fun t133 => (some (IntKind.u64.wrap (t133), 0, none))) else (if x7 = 106 then (if 1 < (x1.length : Int) then ((num_two.f k x8 (rd x1 0) (rd x1 1) x9).bind fun bt135 => ((num_cut.f bt135.1 x9).bind fun t137 => (some (t137, bt135.2, none)))) else (none)) else (if x7 = 167 then ((num_cut.f (rd x1 0) 32).bind fun t138 => (some (t138, 0, none))) else (if x8 = 0 then ((num_signed.f (rd x1 0) 32).bind fun t139 => (some (IntKind.u64.wrap (t139), 0, none))) else (some (rd x1 0, 0, none)))))))) else (none))
end
def num_Eval.f (k : Nat) (a0 : Int) (l1 : List Int) : Option (Int × Int × Option Int) := (num_row.f k a0).bind fun bt120 => ((num_Args.f k a0).bind fun bt124 => (if bt120.2.2.2 = true then (num_Eval.j0 k l1 bt120.1 bt120.2.1 bt120.2.2.1 ((l1.length : Int) != bt124.1)) else (num_Eval.j0 k l1 bt120.1 bt120.2.1 bt120.2.2.1 true)))
theorem num_Eval.mono_l : ∀ k, (∀ y0 y1 y2 y3 y4, LeO (num_Eval.j0 k y0 y1 y2 y3 y4) (num_Eval.j0 (k + 1) y0 y1 y2 y3 y4)) ∧ (∀ y0 y1 y2 y3 y4 y5 y6, LeO (num_Eval.l0 k y0 y1 y2 y3 y4 y5 y6) (num_Eval.l0 (k + 1) y0 y1 y2 y3 y4 y5 y6))
  | 0 => ⟨fun _ _ _ _ _ r h => by simp [num_Eval.j0] at h, fun _ _ _ _ _ _ _ r h => by simp [num_Eval.l0] at h⟩
  | k + 1 => by
    obtain ⟨ih0, ih1⟩ := num_Eval.mono_l k
    refine ⟨?_, ?_⟩
    · intro y0 y1 y2 y3 y4
      unfold num_Eval.j0
      repeat' first
      | (with_reducible exact ih0 _ _ _ _ _)
      | (with_reducible exact ih1 _ _ _ _ _ _ _)
      | (with_reducible exact num_Args.mono _ _)
      | (with_reducible exact num_count.mono _ _ _ _)
      | (with_reducible exact num_row.mono _ _)
      | (with_reducible exact num_two.mono _ _ _ _ _)
      | (with_reducible exact LeO.refl _)
      | (with_reducible exact LeO.none _)
      | (with_reducible refine LeO.ite ?_ ?_)
      | (with_reducible refine LeO.bind ?_ (fun _ => ?_))
      | exact ih0 _ _ _ _ _
      | exact ih1 _ _ _ _ _ _ _
      | exact num_Args.mono _ _
      | exact num_count.mono _ _ _ _
      | exact num_row.mono _ _
      | exact num_two.mono _ _ _ _ _
      | exact LeO.none _
      | refine LeO.ite ?_ ?_
      | refine LeO.bind ?_ (fun _ => ?_)
    · intro y0 y1 y2 y3 y4 y5 y6
      unfold num_Eval.l0
      repeat' first
      | (with_reducible exact ih0 _ _ _ _ _)
      | (with_reducible exact ih1 _ _ _ _ _ _ _)
      | (with_reducible exact num_Args.mono _ _)
      | (with_reducible exact num_count.mono _ _ _ _)
      | (with_reducible exact num_row.mono _ _)
      | (with_reducible exact num_two.mono _ _ _ _ _)
      | (with_reducible exact LeO.refl _)
      | (with_reducible exact LeO.none _)
      | (with_reducible refine LeO.ite ?_ ?_)
      | (with_reducible refine LeO.bind ?_ (fun _ => ?_))
      | exact ih0 _ _ _ _ _
      | exact ih1 _ _ _ _ _ _ _
      | exact num_Args.mono _ _
      | exact num_count.mono _ _ _ _
      | exact num_row.mono _ _
      | exact num_two.mono _ _ _ _ _
      | exact LeO.none _
      | refine LeO.ite ?_ ?_
      | refine LeO.bind ?_ (fun _ => ?_)
theorem num_Eval.mono : ∀ a0 a1 k, LeO (num_Eval.f k a0 a1) (num_Eval.f (k + 1) a0 a1) := by
  intro a0 a1 k
  obtain ⟨ih0, ih1⟩ := num_Eval.mono_l k
  unfold num_Eval.f
  repeat' first
      | (with_reducible exact ih0 _ _ _ _ _)
      | (with_reducible exact ih1 _ _ _ _ _ _ _)
      | (with_reducible exact num_Args.mono _ _)
      | (with_reducible exact num_count.mono _ _ _ _)
      | (with_reducible exact num_row.mono _ _)
      | (with_reducible exact num_two.mono _ _ _ _ _)
      | (with_reducible exact LeO.refl _)
      | (with_reducible exact LeO.none _)
      | (with_reducible refine LeO.ite ?_ ?_)
      | (with_reducible refine LeO.bind ?_ (fun _ => ?_))
      | exact ih0 _ _ _ _ _
      | exact ih1 _ _ _ _ _ _ _
      | exact num_Args.mono _ _
      | exact num_count.mono _ _ _ _
      | exact num_row.mono _ _
      | exact num_two.mono _ _ _ _ _
      | exact LeO.none _
      | refine LeO.ite ?_ ?_
      | refine LeO.bind ?_ (fun _ => ?_)
set_option maxHeartbeats 8000000 in
set_option maxRecDepth 100000 in
theorem num_Eval.calls (k : Nat) (a0 : Int) (A1 : Option Addr) (c1 : Nat) (l1 : List Int) (r1 : Int) (r2 : Int) (r3 : Option Int) (w : World) (hG : GL w) (hr1 : Kd.C (Kd.int .u64) w A1 l1.length l1) (hc1 : l1.length ≤ c1) (h : num_Eval.f k a0 l1 = some (r1, r2, r3)) :
    Calls Tryd.prog 13 #[.int .i64 a0, .slice A1 l1.length c1] w fun e w' => e = .returned (.tuple #[.int .u64 r1, .int .i64 r2, errW r3]) ∧ Below w.heap.size w w' := by
  have hu30 := Tryd.underlying30
  have hu33 := Tryd.underlying33
  have HGL := Aside0.mk hG
  clear hG
  have HR1 := Aside0.mk hr1
  have HC1 := Aside0.mk hc1
  clear hr1 hc1
  have HB := Aside0.mk (Below.refl w.heap.size w)
  have H : ((num_row.f k a0).bind fun bt120 => ((num_Args.f k a0).bind fun bt124 => (if bt120.2.2.2 = true then (num_Eval.j0 k l1 bt120.1 bt120.2.1 bt120.2.2.1 ((l1.length : Int) != bt124.1)) else (num_Eval.j0 k l1 bt120.1 bt120.2.1 bt120.2.2.1 true)))) = some (r1, r2, r3) := h
  clear h
  replace H := Option.bind_eq_some_iff.mp H
  obtain ⟨⟨t120, t121, t122, t123⟩, A30, H⟩ := H
  replace H : ((num_Args.f k a0).bind fun bt124 => (if t123 = true then (num_Eval.j0 k l1 t120 t121 t122 ((l1.length : Int) != bt124.1)) else (num_Eval.j0 k l1 t120 t121 t122 true))) = some (r1, r2, r3) := H
  have A3 := Aside0.mk A30
  clear A30
  replace H := Option.bind_eq_some_iff.mp H
  obtain ⟨⟨t124, t125⟩, A40, H⟩ := H
  replace H : (if t123 = true then (num_Eval.j0 k l1 t120 t121 t122 ((l1.length : Int) != t124)) else (num_Eval.j0 k l1 t120 t121 t122 true)) = some (r1, r2, r3) := H
  have A4 := Aside0.mk A40
  clear A40
  have HC5 := Aside0.mk H
  clear H
  go_enter Tryd.func13, Tryd.ntmps13
  go_upto_region 3 with (first | ((with_reducible refine gate_callee (f := 16) rfl ?_); refine goesL_ (some 20) rfl rfl Tryd.func16 (by kernel_rfl) rfl #[.int .i64 a0] rfl (by (try simp only [List.map_toArray, List.map_cons, List.map_nil]); first | done | rfl | (simp only [List.length_drop, List.length_take]; rfl)) ?_; (with_reducible refine (num_row.calls k a0 t120 t121 t122 t123 _ A3.out).mono ?_); rintro e w' ⟨rfl, ⟨nd, rfl⟩⟩; refine ⟨_, rfl, ?_⟩) | ((with_reducible refine gate_callee (f := 11) rfl ?_); refine goesL_ (some 27) rfl rfl Tryd.func11 (by kernel_rfl) rfl #[.int .i64 a0] rfl (by (try simp only [List.map_toArray, List.map_cons, List.map_nil]); first | done | rfl | (simp only [List.length_drop, List.length_take]; rfl)) ?_; (with_reducible refine (num_Args.calls k a0 t124 t125 _ A4.out).mono ?_); rintro e w' ⟨rfl, ⟨nd, rfl⟩⟩; refine ⟨_, rfl, ?_⟩))
  (try simp only [Act.put, List.setIfInBounds_toArray, List.set_cons_zero, List.set_cons_succ])
  go_cut [37] (fun v37 wc => ∃ (kq : Nat) (x37_4 : Bool), v37 = .bool x37_4 ∧ Aside0 (num_Eval.j0 kq l1 t120 t121 t122 x37_4 = some (r1, r2, r3)) ∧ Aside0 (kq ≤ k) ∧ Aside0 (Below w.heap.size w wc))
  case first =>
    have H := HC5.out
    clear HC5
    by_cases c6 : t123 = true
    · subst c6
      have H1 : (num_Eval.j0 k l1 t120 t121 t122 ((l1.length : Int) != t124)) = some (r1, r2, r3) := by rw [if_pos rfl] at H; exact H
      clear H
      have H := H1
      clear H1
      have H' := Aside0.mk H
      clear H
      go_wp2
      go_meet
      case rel => exact ⟨_, (((l1.length : Int) != t124)), (by first | rfl | (simp; done) | (simp [*]; done)), H', ⟨by first | omega | exact Nat.le_refl _⟩, ⟨by repeat (first | (with_reducible first | exact HB.out | apply below_alloc | apply pw_below_drewN | apply below_drew1) | exact HB.out)⟩⟩
    · replace c6 := Bool.eq_false_iff.mpr c6
      subst c6
      have H1 : (num_Eval.j0 k l1 t120 t121 t122 true) = some (r1, r2, r3) := by rw [if_neg (show ¬ (false = true) by decide)] at H; exact H
      clear H
      have H := H1
      clear H1
      have H' := Aside0.mk H
      clear H
      go_wp2
      go_meet
      case rel => exact ⟨_, (true), (by first | rfl | (simp; done) | (simp [*]; done)), H', ⟨by first | omega | exact Nat.le_refl _⟩, ⟨by repeat (first | (with_reducible first | exact HB.out | apply below_alloc | apply pw_below_drewN | apply below_drew1) | exact HB.out)⟩⟩
  case rest =>
    clear HC5
    try clear c1
    try clear p2
    try clear c6
    obtain ⟨kq, x37_4, rfl, HA, HJ4, HB⟩ := hcut
    cases kq with
    | zero => exact absurd HA.out (by simp [num_Eval.j0])
    | succ kj4 =>
      have H := HA.out
      clear HA
      simp only [num_Eval.j0] at H
      by_cases c7 : x37_4 = true
      · subst c7
        have H1 : (some (0, 0, some 1)) = some (r1, r2, r3) := by rw [if_pos rfl] at H; exact H
        clear H
        have H := H1
        clear H1
        simp only [Option.some.injEq, Prod.mk.injEq] at H
        obtain ⟨rfl, rfl, rfl⟩ := H
        go_wp2
        go_ret3
        exact ⟨by first | rfl | (simp [errW_none, errW_some] <;> rfl) | (simp [*, errW_none, errW_some] <;> rfl), by repeat (first | (with_reducible first | exact HB.out | apply below_alloc | apply pw_below_drewN | apply below_drew1) | exact HB.out)⟩
      · replace c7 := Bool.eq_false_iff.mpr c7
        subst c7
        have H1 : (num_Eval.l0 kj4 l1 t120 t121 t122 l1 (l1.length : Int) 0) = some (r1, r2, r3) := by rw [if_neg (show ¬ (false = true) by decide)] at H; exact H
        clear H
        have H := H1
        clear H1
        have H' := Aside0.mk H
        clear H
        go_wp2
        go_loopg [41] kj4 (fun kq v41 w' => ∃ (x41_2 : Int), v41 = .int .i64 x41_2 ∧ Aside0 (num_Eval.l0 kq l1 t120 t121 t122 l1 (l1.length : Int) x41_2 = some (r1, r2, r3)) ∧ Aside0 (kq ≤ kj4) ∧ Aside0 (Below w.heap.size w w'))
        case atStart => exact ⟨(0), (by first | rfl | (simp; done) | (simp [*]; done)), H', ⟨Nat.le_refl _⟩, ⟨by repeat (first | (with_reducible first | exact HB.out | apply below_alloc | apply pw_below_drewN | apply below_drew1) | exact HB.out)⟩⟩
        case round =>
          clear H'
          try clear c1
          try clear p2
          try clear c6
          try clear c7
          try clear p2
          obtain ⟨x41_2, rfl, HA, HK2, HB⟩ := hrel
          cases gk with
          | zero => exact absurd HA.out (by simp [num_Eval.l0])
          | succ k2 =>
            have H := HA.out
            clear HA
            simp only [num_Eval.l0] at H
            by_cases c8 : x41_2 < (l1.length : Int)
            · rw [if_pos c8] at H
              have c8b0 : decide (x41_2 < (l1.length : Int)) = true := decide_eq_true c8
              clear c8
              by_cases c9 : 0 ≤ x41_2
              · rw [if_pos c9] at H
                have c9b0 : decide (0 ≤ x41_2) = true := decide_eq_true c9
                clear c9
                by_cases c10 : x41_2 < (l1.length : Int)
                · rw [if_pos c10] at H
                  have c10b0 : decide (x41_2 < (l1.length : Int)) = true := decide_eq_true c10
                  clear c10
                  replace H := Option.bind_eq_some_iff.mp H
                  obtain ⟨t127, A110, H⟩ := H
                  replace H : (if t127 = (rd l1 x41_2) then (num_Eval.l0 k2 l1 t120 t121 t122 l1 (l1.length : Int) (wrap64 (x41_2 + 1))) else (some (0, 0, some 1))) = some (r1, r2, r3) := H
                  have A11 := Aside0.mk A110
                  clear A110
                  by_cases c12 : t127 = (rd l1 x41_2)
                  · rw [if_pos c12] at H
                    have c12b0 : (t127 == (rd l1 x41_2)) = true := beq_iff_eq.mpr c12
                    have c12b1 : (t127 != (rd l1 x41_2)) = false := bne_eq_false_iff_eq.mpr c12
                    clear c12
                    have H' := Aside0.mk H
                    clear H
                    have p126 : 0 ≤ (x41_2 : Int) := of_decide_eq_true (by first | (with_reducible assumption) | assumption)
                    have q126 : x41_2 < (l1.length : Int) := of_decide_eq_true (by first | (with_reducible assumption) | assumption)
                    obtain ⟨ad126, e126, hx126_0⟩ := Kd.at_int HR1.out x41_2 p126 q126
                    cases e126
                    replace hx126_0 := (HB.out.cell (World.block_lt_of_cell? w _ hx126_0)).trans hx126_0
                    replace p126 := eq_true p126
                    replace q126 := eq_true q126
                    go_wp2_with (first | ((with_reducible refine gate_callee (f := 17) rfl ?_); refine goesL_ (some 47) rfl rfl Tryd.func17 (by kernel_rfl) rfl #[.int .u64 (rd l1 x41_2), .int .i64 t122] rfl (by (try simp only [List.map_toArray, List.map_cons, List.map_nil]); first | done | rfl | (simp only [List.length_drop, List.length_take]; rfl)) ?_; (with_reducible refine (num_cut.calls (rd l1 x41_2) t122 t127 _ A11.out).mono ?_); rintro e w' ⟨rfl, ⟨nd, rfl⟩⟩; refine ⟨_, rfl, ?_⟩))
                    go_roundg k2
                    case measure => have := HJ4.out; have := HK2.out; omega
                    case rel => exact ⟨(wrap64 (x41_2 + 1)), (by first | rfl | (simp; done) | (simp [*]; done)), H', ⟨by have := HJ4.out; have := HK2.out; omega⟩, ⟨by repeat (first | (with_reducible first | exact HB.out | apply below_alloc | apply pw_below_drewN | apply below_drew1) | exact HB.out)⟩⟩
                  · rw [if_neg c12] at H
                    have c12b0 : (t127 == (rd l1 x41_2)) = false := beq_eq_false_iff_ne.mpr c12
                    have c12b1 : (t127 != (rd l1 x41_2)) = true := bne_iff_ne.mpr c12
                    simp only [Option.some.injEq, Prod.mk.injEq] at H
                    obtain ⟨rfl, rfl, rfl⟩ := H
                    have p126 : 0 ≤ (x41_2 : Int) := of_decide_eq_true (by first | (with_reducible assumption) | assumption)
                    have q126 : x41_2 < (l1.length : Int) := of_decide_eq_true (by first | (with_reducible assumption) | assumption)
                    obtain ⟨ad126, e126, hx126_0⟩ := Kd.at_int HR1.out x41_2 p126 q126
                    cases e126
                    replace hx126_0 := (HB.out.cell (World.block_lt_of_cell? w _ hx126_0)).trans hx126_0
                    replace p126 := eq_true p126
                    replace q126 := eq_true q126
                    go_wp2_with (first | ((with_reducible refine gate_callee (f := 17) rfl ?_); refine goesL_ (some 47) rfl rfl Tryd.func17 (by kernel_rfl) rfl #[.int .u64 (rd l1 x41_2), .int .i64 t122] rfl (by (try simp only [List.map_toArray, List.map_cons, List.map_nil]); first | done | rfl | (simp only [List.length_drop, List.length_take]; rfl)) ?_; (with_reducible refine (num_cut.calls (rd l1 x41_2) t122 t127 _ A11.out).mono ?_); rintro e w' ⟨rfl, ⟨nd, rfl⟩⟩; refine ⟨_, rfl, ?_⟩))
                    go_ret3
                    exact ⟨by first | rfl | (simp [errW_none, errW_some] <;> rfl) | (simp [*, errW_none, errW_some] <;> rfl), by repeat (first | (with_reducible first | exact HB.out | apply below_alloc | apply pw_below_drewN | apply below_drew1) | exact HB.out)⟩
                · rw [if_neg c10] at H
                  exact absurd H (by simp)
              · rw [if_neg c9] at H
                exact absurd H (by simp)
            · rw [if_neg c8] at H
              have c8b0 : decide (x41_2 < (l1.length : Int)) = false := decide_eq_false c8
              clear c8
              by_cases c13 : 0 < (l1.length : Int)
              · rw [if_pos c13] at H
                have c13b0 : decide (0 < (l1.length : Int)) = true := decide_eq_true c13
                have c13b1 : decide (0 < l1.length) = true := decide_eq_true (by omega)
                clear c13
                by_cases c14 : t120 = 69
                · rw [if_pos c14] at H
                  have c14b0 : (t120 == 69) = true := beq_iff_eq.mpr c14
                  have c14b1 : (t120 != 69) = false := bne_eq_false_iff_eq.mpr c14
                  clear c14
                  replace H := Option.bind_eq_some_iff.mp H
                  obtain ⟨t129, A150, H⟩ := H
                  replace H : (some (t129, 0, none)) = some (r1, r2, r3) := H
                  have A15 := Aside0.mk A150
                  clear A150
                  simp only [Option.some.injEq, Prod.mk.injEq] at H
                  obtain ⟨rfl, rfl, rfl⟩ := H
                  have p128 : 0 ≤ (0 : Int) := (by omega)
                  have q128 : 0 < (l1.length : Int) := of_decide_eq_true (by first | (with_reducible assumption) | assumption)
                  obtain ⟨ad128, e128, hx128_0⟩ := Kd.at_int HR1.out 0 p128 q128
                  cases e128
                  have qi128 : (0 < l1.length) = True := eq_true (by omega)
                  (try rw [show ((0 : Int)).toNat = 0 from rfl] at hx128_0)
                  (try rw [Addr.add_zero'] at hx128_0)
                  replace hx128_0 := (HB.out.cell (World.block_lt_of_cell? w _ hx128_0)).trans hx128_0
                  replace p128 := eq_true p128
                  replace q128 := eq_true q128
                  go_wp2_with (first | ((with_reducible refine gate_callee (f := 18) rfl ?_); refine goesL_ (some 60) rfl rfl Tryd.func18 (by kernel_rfl) rfl #[.bool ((rd l1 0) == 0)] rfl (by (try simp only [List.map_toArray, List.map_cons, List.map_nil]); first | done | rfl | (simp only [List.length_drop, List.length_take]; rfl)) ?_; (with_reducible refine (num_bit.calls ((rd l1 0) == 0) t129 _ A15.out).mono ?_); rintro e w' ⟨rfl, ⟨nd, rfl⟩⟩; refine ⟨_, rfl, ?_⟩))
                  go_ret3
                  exact ⟨by first | rfl | (simp [errW_none, errW_some] <;> rfl) | (simp [*, errW_none, errW_some] <;> rfl), by repeat (first | (with_reducible first | exact HB.out | apply below_alloc | apply pw_below_drewN | apply below_drew1) | exact HB.out)⟩
                · rw [if_neg c14] at H
                  have c14b0 : (t120 == 69) = false := beq_eq_false_iff_ne.mpr c14
                  have c14b1 : (t120 != 69) = true := bne_iff_ne.mpr c14
                  by_cases c16 : t120 = 70
                  · rw [if_pos c16] at H
                    have c16b0 : (t120 == 70) = true := beq_iff_eq.mpr c16
                    have c16b1 : (t120 != 70) = false := bne_eq_false_iff_eq.mpr c16
                    clear c16
                    by_cases c17 : 1 < (l1.length : Int)
                    · rw [if_pos c17] at H
                      have c17b0 : decide (1 < (l1.length : Int)) = true := decide_eq_true c17
                      have c17b1 : decide (1 < l1.length) = true := decide_eq_true (by omega)
                      clear c17
                      replace H := Option.bind_eq_some_iff.mp H
                      obtain ⟨t131, A180, H⟩ := H
                      replace H : ((num_bit.f t131).bind fun t132 => (some (t132, 0, none))) = some (r1, r2, r3) := H
                      have A18 := Aside0.mk A180
                      clear A180
                      replace H := Option.bind_eq_some_iff.mp H
                      obtain ⟨t132, A190, H⟩ := H
                      replace H : (some (t132, 0, none)) = some (r1, r2, r3) := H
                      have A19 := Aside0.mk A190
                      clear A190
                      simp only [Option.some.injEq, Prod.mk.injEq] at H
                      obtain ⟨rfl, rfl, rfl⟩ := H
                      have p128 : 0 ≤ (0 : Int) := (by omega)
                      have q128 : 0 < (l1.length : Int) := of_decide_eq_true (by first | (with_reducible assumption) | assumption)
                      obtain ⟨ad128, e128, hx128_0⟩ := Kd.at_int HR1.out 0 p128 q128
                      cases e128
                      have qi128 : (0 < l1.length) = True := eq_true (by omega)
                      (try rw [show ((0 : Int)).toNat = 0 from rfl] at hx128_0)
                      (try rw [Addr.add_zero'] at hx128_0)
                      replace hx128_0 := (HB.out.cell (World.block_lt_of_cell? w _ hx128_0)).trans hx128_0
                      replace p128 := eq_true p128
                      replace q128 := eq_true q128
                      have p130 : 0 ≤ (1 : Int) := (by omega)
                      have q130 : 1 < (l1.length : Int) := of_decide_eq_true (by first | (with_reducible assumption) | assumption)
                      obtain ⟨ad130, e130, hx130_0⟩ := Kd.at_int HR1.out 1 p130 q130
                      obtain rfl : ad128 = ad130 := (by injection e130)
                      (try simp only [show (1 : Int).toNat = 1 from rfl, Nat.reduceMul, Nat.reduceEqDiff, Go.Addr.add, ↓reduceIte] at hx130_0)
                      have qi130 : (1 < l1.length) = True := eq_true (by omega)
                      (try rw [show ((1 : Int)).toNat = 1 from rfl] at hx130_0)
                      replace hx130_0 := (HB.out.cell (World.block_lt_of_cell? w _ hx130_0)).trans hx130_0
                      replace p130 := eq_true p130
                      replace q130 := eq_true q130
                      go_wp2_with (first | ((with_reducible refine gate_callee (f := 19) rfl ?_); refine goesL_ (some 69) rfl rfl Tryd.func19 (by kernel_rfl) rfl #[.int .i64 t121, .int .u64 (rd l1 0), .int .u64 (rd l1 1), .int .i64 t122] rfl (by (try simp only [List.map_toArray, List.map_cons, List.map_nil]); first | done | rfl | (simp only [List.length_drop, List.length_take]; rfl)) ?_; (with_reducible refine (num_compare.calls t121 (rd l1 0) (rd l1 1) t122 t131 _ A18.out).mono ?_); rintro e w' ⟨rfl, ⟨nd, rfl⟩⟩; refine ⟨_, rfl, ?_⟩) | ((with_reducible refine gate_callee (f := 18) rfl ?_); refine goesL_ (some 70) rfl rfl Tryd.func18 (by kernel_rfl) rfl #[.bool t131] rfl (by (try simp only [List.map_toArray, List.map_cons, List.map_nil]); first | done | rfl | (simp only [List.length_drop, List.length_take]; rfl)) ?_; (with_reducible refine (num_bit.calls t131 t132 _ A19.out).mono ?_); rintro e w' ⟨rfl, ⟨nd, rfl⟩⟩; refine ⟨_, rfl, ?_⟩))
                      go_ret3
                      exact ⟨by first | rfl | (simp [errW_none, errW_some] <;> rfl) | (simp [*, errW_none, errW_some] <;> rfl), by repeat (first | (with_reducible first | exact HB.out | apply below_alloc | apply pw_below_drewN | apply below_drew1) | exact HB.out)⟩
                    · rw [if_neg c17] at H
                      exact absurd H (by simp)
                  · rw [if_neg c16] at H
                    have c16b0 : (t120 == 70) = false := beq_eq_false_iff_ne.mpr c16
                    have c16b1 : (t120 != 70) = true := bne_iff_ne.mpr c16
                    by_cases c20 : t120 = 103
                    · rw [if_pos c20] at H
                      have c20b0 : (t120 == 103) = true := beq_iff_eq.mpr c20
                      have c20b1 : (t120 != 103) = false := bne_eq_false_iff_eq.mpr c20
                      clear c20
                      replace H := Option.bind_eq_some_iff.mp H
                      obtain ⟨t133, A210, H⟩ := H
                      replace H : (some (IntKind.u64.wrap (t133), 0, none)) = some (r1, r2, r3) := H
                      have A21 := Aside0.mk A210
                      clear A210
                      simp only [Option.some.injEq, Prod.mk.injEq] at H
                      obtain ⟨rfl, rfl, rfl⟩ := H
                      have p128 : 0 ≤ (0 : Int) := (by omega)
                      have q128 : 0 < (l1.length : Int) := of_decide_eq_true (by first | (with_reducible assumption) | assumption)
                      obtain ⟨ad128, e128, hx128_0⟩ := Kd.at_int HR1.out 0 p128 q128
                      cases e128
                      have qi128 : (0 < l1.length) = True := eq_true (by omega)
                      (try rw [show ((0 : Int)).toNat = 0 from rfl] at hx128_0)
                      (try rw [Addr.add_zero'] at hx128_0)
                      replace hx128_0 := (HB.out.cell (World.block_lt_of_cell? w _ hx128_0)).trans hx128_0
                      replace p128 := eq_true p128
                      replace q128 := eq_true q128
                      go_wp2_with (first | ((with_reducible refine gate_callee (f := 20) rfl ?_); refine goesL_ (some 76) rfl rfl Tryd.func20 (by kernel_rfl) rfl #[.int .i64 t121, .int .u64 (rd l1 0), .int .i64 t122] rfl (by (try simp only [List.map_toArray, List.map_cons, List.map_nil]); first | done | rfl | (simp only [List.length_drop, List.length_take]; rfl)) ?_; (with_reducible refine (num_count.calls k2 t121 (rd l1 0) t122 t133 _ (GL_at HGL.out (by repeat (first | (with_reducible first | exact HB.out | apply below_alloc | apply pw_below_drewN | apply below_drew1) | exact HB.out))) A21.out).mono ?_); rintro e w22 ⟨rfl, hb⟩; refine ⟨_, rfl, ?_⟩; have n0_ := Aside0.mk (below_step (by repeat (first | (with_reducible first | exact HB.out | apply below_alloc | apply pw_below_drewN | apply below_drew1) | exact HB.out)) hb); clear HB; have HB := n0_; clear n0_; (try clear hb); (try clear hb2); (try clear hk); (try clear hi)))
                      go_ret3
                      exact ⟨by first | rfl | (simp [errW_none, errW_some] <;> rfl) | (simp [*, errW_none, errW_some] <;> rfl), by repeat (first | (with_reducible first | exact HB.out | apply below_alloc | apply pw_below_drewN | apply below_drew1) | exact HB.out)⟩
                    · rw [if_neg c20] at H
                      have c20b0 : (t120 == 103) = false := beq_eq_false_iff_ne.mpr c20
                      have c20b1 : (t120 != 103) = true := bne_iff_ne.mpr c20
                      by_cases c23 : t120 = 106
                      · rw [if_pos c23] at H
                        have c23b0 : (t120 == 106) = true := beq_iff_eq.mpr c23
                        have c23b1 : (t120 != 106) = false := bne_eq_false_iff_eq.mpr c23
                        clear c23
                        by_cases c24 : 1 < (l1.length : Int)
                        · rw [if_pos c24] at H
                          have c24b0 : decide (1 < (l1.length : Int)) = true := decide_eq_true c24
                          have c24b1 : decide (1 < l1.length) = true := decide_eq_true (by omega)
                          clear c24
                          replace H := Option.bind_eq_some_iff.mp H
                          obtain ⟨⟨t135, t136⟩, A250, H⟩ := H
                          replace H : ((num_cut.f t135 t122).bind fun t137 => (some (t137, t136, none))) = some (r1, r2, r3) := H
                          have A25 := Aside0.mk A250
                          clear A250
                          replace H := Option.bind_eq_some_iff.mp H
                          obtain ⟨t137, A260, H⟩ := H
                          replace H : (some (t137, t136, none)) = some (r1, r2, r3) := H
                          have A26 := Aside0.mk A260
                          clear A260
                          simp only [Option.some.injEq, Prod.mk.injEq] at H
                          obtain ⟨rfl, rfl, rfl⟩ := H
                          have p128 : 0 ≤ (0 : Int) := (by omega)
                          have q128 : 0 < (l1.length : Int) := of_decide_eq_true (by first | (with_reducible assumption) | assumption)
                          obtain ⟨ad128, e128, hx128_0⟩ := Kd.at_int HR1.out 0 p128 q128
                          cases e128
                          have qi128 : (0 < l1.length) = True := eq_true (by omega)
                          (try rw [show ((0 : Int)).toNat = 0 from rfl] at hx128_0)
                          (try rw [Addr.add_zero'] at hx128_0)
                          replace hx128_0 := (HB.out.cell (World.block_lt_of_cell? w _ hx128_0)).trans hx128_0
                          replace p128 := eq_true p128
                          replace q128 := eq_true q128
                          have p134 : 0 ≤ (1 : Int) := (by omega)
                          have q134 : 1 < (l1.length : Int) := of_decide_eq_true (by first | (with_reducible assumption) | assumption)
                          obtain ⟨ad134, e134, hx134_0⟩ := Kd.at_int HR1.out 1 p134 q134
                          obtain rfl : ad128 = ad134 := (by injection e134)
                          (try simp only [show (1 : Int).toNat = 1 from rfl, Nat.reduceMul, Nat.reduceEqDiff, Go.Addr.add, ↓reduceIte] at hx134_0)
                          have qi134 : (1 < l1.length) = True := eq_true (by omega)
                          (try rw [show ((1 : Int)).toNat = 1 from rfl] at hx134_0)
                          replace hx134_0 := (HB.out.cell (World.block_lt_of_cell? w _ hx134_0)).trans hx134_0
                          replace p134 := eq_true p134
                          replace q134 := eq_true q134
                          go_wp2_with (first | ((with_reducible refine gate_callee (f := 21) rfl ?_); refine goesL_ (some 87) rfl rfl Tryd.func21 (by kernel_rfl) rfl #[.int .i64 t121, .int .u64 (rd l1 0), .int .u64 (rd l1 1), .int .i64 t122] rfl (by (try simp only [List.map_toArray, List.map_cons, List.map_nil]); first | done | rfl | (simp only [List.length_drop, List.length_take]; rfl)) ?_; (with_reducible refine (num_two.calls k2 t121 (rd l1 0) (rd l1 1) t122 t135 t136 _ A25.out).mono ?_); rintro e w' ⟨rfl, ⟨nd, rfl⟩⟩; refine ⟨_, rfl, ?_⟩) | ((with_reducible refine gate_callee (f := 17) rfl ?_); refine goesL_ (some 92) rfl rfl Tryd.func17 (by kernel_rfl) rfl #[.int .u64 t135, .int .i64 t122] rfl (by (try simp only [List.map_toArray, List.map_cons, List.map_nil]); first | done | rfl | (simp only [List.length_drop, List.length_take]; rfl)) ?_; (with_reducible refine (num_cut.calls t135 t122 t137 _ A26.out).mono ?_); rintro e w' ⟨rfl, ⟨nd, rfl⟩⟩; refine ⟨_, rfl, ?_⟩))
                          go_ret3
                          exact ⟨by first | rfl | (simp [errW_none, errW_some] <;> rfl) | (simp [*, errW_none, errW_some] <;> rfl), by repeat (first | (with_reducible first | exact HB.out | apply below_alloc | apply pw_below_drewN | apply below_drew1) | exact HB.out)⟩
                        · rw [if_neg c24] at H
                          exact absurd H (by simp)
                      · rw [if_neg c23] at H
                        have c23b0 : (t120 == 106) = false := beq_eq_false_iff_ne.mpr c23
                        have c23b1 : (t120 != 106) = true := bne_iff_ne.mpr c23
                        by_cases c27 : t120 = 167
                        · rw [if_pos c27] at H
                          have c27b0 : (t120 == 167) = true := beq_iff_eq.mpr c27
                          have c27b1 : (t120 != 167) = false := bne_eq_false_iff_eq.mpr c27
                          clear c27
                          replace H := Option.bind_eq_some_iff.mp H
                          obtain ⟨t138, A280, H⟩ := H
                          replace H : (some (t138, 0, none)) = some (r1, r2, r3) := H
                          have A28 := Aside0.mk A280
                          clear A280
                          simp only [Option.some.injEq, Prod.mk.injEq] at H
                          obtain ⟨rfl, rfl, rfl⟩ := H
                          have p128 : 0 ≤ (0 : Int) := (by omega)
                          have q128 : 0 < (l1.length : Int) := of_decide_eq_true (by first | (with_reducible assumption) | assumption)
                          obtain ⟨ad128, e128, hx128_0⟩ := Kd.at_int HR1.out 0 p128 q128
                          cases e128
                          have qi128 : (0 < l1.length) = True := eq_true (by omega)
                          (try rw [show ((0 : Int)).toNat = 0 from rfl] at hx128_0)
                          (try rw [Addr.add_zero'] at hx128_0)
                          replace hx128_0 := (HB.out.cell (World.block_lt_of_cell? w _ hx128_0)).trans hx128_0
                          replace p128 := eq_true p128
                          replace q128 := eq_true q128
                          go_wp2_with (first | ((with_reducible refine gate_callee (f := 17) rfl ?_); refine goesL_ (some 97) rfl rfl Tryd.func17 (by kernel_rfl) rfl #[.int .u64 (rd l1 0), .int .i64 32] rfl (by (try simp only [List.map_toArray, List.map_cons, List.map_nil]); first | done | rfl | (simp only [List.length_drop, List.length_take]; rfl)) ?_; (with_reducible refine (num_cut.calls (rd l1 0) 32 t138 _ A28.out).mono ?_); rintro e w' ⟨rfl, ⟨nd, rfl⟩⟩; refine ⟨_, rfl, ?_⟩))
                          go_ret3
                          exact ⟨by first | rfl | (simp [errW_none, errW_some] <;> rfl) | (simp [*, errW_none, errW_some] <;> rfl), by repeat (first | (with_reducible first | exact HB.out | apply below_alloc | apply pw_below_drewN | apply below_drew1) | exact HB.out)⟩
                        · rw [if_neg c27] at H
                          have c27b0 : (t120 == 167) = false := beq_eq_false_iff_ne.mpr c27
                          have c27b1 : (t120 != 167) = true := bne_iff_ne.mpr c27
                          by_cases c29 : t121 = 0
                          · rw [if_pos c29] at H
                            have c29b0 : (t121 == 0) = true := beq_iff_eq.mpr c29
                            have c29b1 : (t121 != 0) = false := bne_eq_false_iff_eq.mpr c29
                            clear c29
                            replace H := Option.bind_eq_some_iff.mp H
                            obtain ⟨t139, A300, H⟩ := H
                            replace H : (some (IntKind.u64.wrap (t139), 0, none)) = some (r1, r2, r3) := H
                            have A30 := Aside0.mk A300
                            clear A300
                            simp only [Option.some.injEq, Prod.mk.injEq] at H
                            obtain ⟨rfl, rfl, rfl⟩ := H
                            have p128 : 0 ≤ (0 : Int) := (by omega)
                            have q128 : 0 < (l1.length : Int) := of_decide_eq_true (by first | (with_reducible assumption) | assumption)
                            obtain ⟨ad128, e128, hx128_0⟩ := Kd.at_int HR1.out 0 p128 q128
                            cases e128
                            have qi128 : (0 < l1.length) = True := eq_true (by omega)
                            (try rw [show ((0 : Int)).toNat = 0 from rfl] at hx128_0)
                            (try rw [Addr.add_zero'] at hx128_0)
                            replace hx128_0 := (HB.out.cell (World.block_lt_of_cell? w _ hx128_0)).trans hx128_0
                            replace p128 := eq_true p128
                            replace q128 := eq_true q128
                            go_wp2_with (first | ((with_reducible refine gate_callee (f := 22) rfl ?_); refine goesL_ (some 101) rfl rfl Tryd.func22 (by kernel_rfl) rfl #[.int .u64 (rd l1 0), .int .i64 32] rfl (by (try simp only [List.map_toArray, List.map_cons, List.map_nil]); first | done | rfl | (simp only [List.length_drop, List.length_take]; rfl)) ?_; (with_reducible refine (num_signed.calls (rd l1 0) 32 t139 _ A30.out).mono ?_); rintro e w' ⟨rfl, ⟨nd, rfl⟩⟩; refine ⟨_, rfl, ?_⟩))
                            go_ret3
                            exact ⟨by first | rfl | (simp [errW_none, errW_some] <;> rfl) | (simp [*, errW_none, errW_some] <;> rfl), by repeat (first | (with_reducible first | exact HB.out | apply below_alloc | apply pw_below_drewN | apply below_drew1) | exact HB.out)⟩
                          · rw [if_neg c29] at H
                            have c29b0 : (t121 == 0) = false := beq_eq_false_iff_ne.mpr c29
                            have c29b1 : (t121 != 0) = true := bne_iff_ne.mpr c29
                            simp only [Option.some.injEq, Prod.mk.injEq] at H
                            obtain ⟨rfl, rfl, rfl⟩ := H
                            have p128 : 0 ≤ (0 : Int) := (by omega)
                            have q128 : 0 < (l1.length : Int) := of_decide_eq_true (by first | (with_reducible assumption) | assumption)
                            obtain ⟨ad128, e128, hx128_0⟩ := Kd.at_int HR1.out 0 p128 q128
                            cases e128
                            have qi128 : (0 < l1.length) = True := eq_true (by omega)
                            (try rw [show ((0 : Int)).toNat = 0 from rfl] at hx128_0)
                            (try rw [Addr.add_zero'] at hx128_0)
                            replace hx128_0 := (HB.out.cell (World.block_lt_of_cell? w _ hx128_0)).trans hx128_0
                            replace p128 := eq_true p128
                            replace q128 := eq_true q128
                            go_wp2
                            go_ret3
                            exact ⟨by first | rfl | (simp [errW_none, errW_some] <;> rfl) | (simp [*, errW_none, errW_some] <;> rfl), by repeat (first | (with_reducible first | exact HB.out | apply below_alloc | apply pw_below_drewN | apply below_drew1) | exact HB.out)⟩
              · rw [if_neg c13] at H
                exact absurd H (by simp)

end Go.Proofs.YtgplakhkofchiaaDoor.RNumEvals
