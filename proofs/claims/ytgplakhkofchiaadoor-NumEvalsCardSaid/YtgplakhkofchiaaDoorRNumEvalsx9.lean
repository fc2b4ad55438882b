-- Made by the program wip/patchprint.py (this session's own, over the kit's print)
import Derived.Test.YtgplakhkofchiaaDoorRNumEvalsx0
import Derived.Test.YtgplakhkofchiaaDoorRNumEvalsx3
import Derived.Test.YtgplakhkofchiaaDoorRNumEvalsx4
import Derived.Test.YtgplakhkofchiaaDoorRNumEvalsx5
import Derived.Test.YtgplakhkofchiaaDoorRNumEvalsx8
namespace Go.Proofs.YtgplakhkofchiaaDoor.RNumEvals
open Go.RowKit Go.Proofs.YtgplakhkofchiaaDoor.Man Go.Proofs.YtgplakhkofchiaaDoorW.PrintWords Go.Proofs.YtgplakhkofchiaaDoorW.PrintLast Go.Proofs.YtgplakhkofchiaaDoorW.PrintMore
attribute [local go_sem] max2_int min2_int max_two min_two max_three min_three max_four min_four   -- for this text's walks alone
set_option linter.unusedVariables false
set_option linter.unusedSimpArgs false
set_option linter.unnecessarySimpa false

attribute [local go_sem] err_eql err_neq err_nil_eql err_nil_neq
attribute [local simp] shl_zero
/-! ### grommetref03_Eval: function 15 -/
def grommetref03_Eval.j0 : Nat → Int → List Int → Int → Int → Bool → Option (Int × Int)
  | 0, _, _, _, _, _ => none
  | k + 1, x0, x1, x6, x7, x13 => if x13 = true then ((grommetref03_truth.f (x7 == 0)).bind fun t202 => (some (t202, 0))) else (if x0 = 167 then (some (Int.tmod x7 4294967296, 0)) else (if x0 = 172 then ((grommetref03_negative.f x7 32).bind fun t203 => (if t203 = true then (some (IntKind.u64.wrap (x7 + 18446744069414584320), 0)) else (some (x7, 0)))) else (if x0 = 173 then (some (x7, 0)) else (if x0 < 80 then (if 1 < (x1.length : Int) then ((grommetref03_compare.f k (wrap64 (x0 - 70)) x7 (rd x1 1) x6).bind fun t205 => ((grommetref03_truth.f t205).bind fun t206 => (some (t206, 0)))) else (none)) else (if x0 < 103 then (if 1 < (x1.length : Int) then ((grommetref03_compare.f k (wrap64 (x0 - 81)) x7 (rd x1 1) x6).bind fun t208 => ((grommetref03_truth.f t208).bind fun t209 => (some (t209, 0)))) else (none)) else (if x0 < 106 then ((grommetref03_count.f k (wrap64 (x0 - 103)) x7 x6).bind fun t210 => (some (t210, 0))) else (if x0 < 121 then (if 1 < (x1.length : Int) then ((grommetref03_two.f k (wrap64 (x0 - 106)) x7 (rd x1 1) x6).bind fun bt212 => (some (bt212.1, bt212.2))) else (none)) else (if x0 < 124 then ((grommetref03_count.f k (wrap64 (x0 - 121)) x7 x6).bind fun t214 => (some (t214, 0))) else (if 1 < (x1.length : Int) then ((grommetref03_two.f k (wrap64 (x0 - 124)) x7 (rd x1 1) x6).bind fun bt216 => (some (bt216.1, bt216.2))) else (none))))))))))
def grommetref03_Eval.f (k : Nat) (a0 : Int) (l1 : List Int) : Option (Int × Int) := (grommetref03_Bits.f a0).bind fun t200 => (if 0 < (l1.length : Int) then (if a0 = 69 then (grommetref03_Eval.j0 k a0 l1 t200 (rd l1 0) true) else (grommetref03_Eval.j0 k a0 l1 t200 (rd l1 0) (a0 == 80))) else (none))
theorem grommetref03_Eval.mono_l : ∀ k, (∀ y0 y1 y2 y3 y4, LeO (grommetref03_Eval.j0 k y0 y1 y2 y3 y4) (grommetref03_Eval.j0 (k + 1) y0 y1 y2 y3 y4))
  | 0 => fun _ _ _ _ _ r h => by simp [grommetref03_Eval.j0] at h
  | k + 1 => by
    have ih0 := grommetref03_Eval.mono_l k
    · intro y0 y1 y2 y3 y4
      unfold grommetref03_Eval.j0
      repeat' first
      | (with_reducible exact ih0 _ _ _ _ _)
      | (with_reducible exact grommetref03_compare.mono _ _ _ _ _)
      | (with_reducible exact grommetref03_count.mono _ _ _ _)
      | (with_reducible exact grommetref03_two.mono _ _ _ _ _)
      | (with_reducible exact LeO.refl _)
      | (with_reducible exact LeO.none _)
      | (with_reducible refine LeO.ite ?_ ?_)
      | (with_reducible refine LeO.bind ?_ (fun _ => ?_))
      | exact ih0 _ _ _ _ _
      | exact grommetref03_compare.mono _ _ _ _ _
      | exact grommetref03_count.mono _ _ _ _
      | exact grommetref03_two.mono _ _ _ _ _
      | exact LeO.none _
      | refine LeO.ite ?_ ?_
      | refine LeO.bind ?_ (fun _ => ?_)
theorem grommetref03_Eval.mono : ∀ a0 a1 k, LeO (grommetref03_Eval.f k a0 a1) (grommetref03_Eval.f (k + 1) a0 a1) := by
  intro a0 a1 k
  have ih0 := grommetref03_Eval.mono_l k
  unfold grommetref03_Eval.f
  repeat' first
      | (with_reducible exact ih0 _ _ _ _ _)
      | (with_reducible exact grommetref03_compare.mono _ _ _ _ _)
      | (with_reducible exact grommetref03_count.mono _ _ _ _)
      | (with_reducible exact grommetref03_two.mono _ _ _ _ _)
      | (with_reducible exact LeO.refl _)
      | (with_reducible exact LeO.none _)
      | (with_reducible refine LeO.ite ?_ ?_)
      | (with_reducible refine LeO.bind ?_ (fun _ => ?_))
      | exact ih0 _ _ _ _ _
      | exact grommetref03_compare.mono _ _ _ _ _
      | exact grommetref03_count.mono _ _ _ _
      | exact grommetref03_two.mono _ _ _ _ _
      | exact LeO.none _
      | refine LeO.ite ?_ ?_
      | refine LeO.bind ?_ (fun _ => ?_)
set_option maxHeartbeats 8000000 in
set_option maxRecDepth 100000 in
theorem grommetref03_Eval.calls (k : Nat) (a0 : Int) (A1 : Option Addr) (c1 : Nat) (l1 : List Int) (r1 : Int) (r2 : Int) (w : World) (hr1 : Kd.C (Kd.int .u64) w A1 l1.length l1) (hc1 : l1.length ≤ c1) (h : grommetref03_Eval.f k a0 l1 = some (r1, r2)) :
    Calls Tryd.prog 15 #[.int .i64 a0, .slice A1 l1.length c1] w fun e w' => e = .returned (.tuple #[.int .u64 r1, .int .i64 r2]) ∧ Drawn0 w w' := by
  have HR1 := Aside0.mk hr1
  have HC1 := Aside0.mk hc1
  clear hr1 hc1
  have H : ((grommetref03_Bits.f a0).bind fun t200 => (if 0 < (l1.length : Int) then (if a0 = 69 then (grommetref03_Eval.j0 k a0 l1 t200 (rd l1 0) true) else (grommetref03_Eval.j0 k a0 l1 t200 (rd l1 0) (a0 == 80))) else (none))) = some (r1, r2) := h
  clear h
  replace H := Option.bind_eq_some_iff.mp H
  obtain ⟨t200, A30, H⟩ := H
  replace H : (if 0 < (l1.length : Int) then (if a0 = 69 then (grommetref03_Eval.j0 k a0 l1 t200 (rd l1 0) true) else (grommetref03_Eval.j0 k a0 l1 t200 (rd l1 0) (a0 == 80))) else (none)) = some (r1, r2) := H
  have A3 := Aside0.mk A30
  clear A30
  by_cases c4 : 0 < (l1.length : Int)
  · rw [if_pos c4] at H
    have c4b0 : decide (0 < (l1.length : Int)) = true := decide_eq_true c4
    have c4b1 : decide (0 < l1.length) = true := decide_eq_true (by omega)
    clear c4
    have HC5 := Aside0.mk H
    clear H
    go_enter Tryd.func15, Tryd.ntmps15
    go_upto_region 3 with (first | ((with_reducible refine gate_callee (f := 14) rfl ?_); refine goesL_ (some 9) rfl rfl Tryd.func14 (by kernel_rfl) rfl #[.int .i64 a0] rfl (by (try simp only [List.map_toArray, List.map_cons, List.map_nil]); first | done | rfl | (simp only [List.length_drop, List.length_take]; rfl)) ?_; (with_reducible refine (grommetref03_Bits.calls a0 t200 _ A3.out).mono ?_); rintro e w' ⟨rfl, ⟨nd, rfl⟩⟩; refine ⟨_, rfl, ?_⟩; have p201 : 0 ≤ (0 : Int) := (by omega); have q201 : 0 < (l1.length : Int) := of_decide_eq_true (by first | (with_reducible assumption) | assumption); obtain ⟨ad201, e201, hx201_0⟩ := Kd.at_int HR1.out 0 p201 q201; cases e201; have qi201 : (0 < l1.length) = True := eq_true (by omega); (try rw [show ((0 : Int)).toNat = 0 from rfl] at hx201_0); (try rw [Addr.add_zero'] at hx201_0); replace p201 := eq_true p201; replace q201 := eq_true q201))
    (try simp only [Act.put, List.setIfInBounds_toArray, List.set_cons_zero, List.set_cons_succ])
    go_cut [13] (fun v13 wc => ∃ (kq : Nat) (x13_4 : Bool), v13 = .bool x13_4 ∧ Aside0 (grommetref03_Eval.j0 kq a0 l1 t200 (rd l1 0) x13_4 = some (r1, r2)) ∧ Aside0 (kq ≤ k) ∧ Drawn0 w wc)
    case first =>
      have H := HC5.out
      clear HC5
      by_cases c6 : a0 = 69
      · rw [if_pos c6] at H
        have c6b0 : (a0 == 69) = true := beq_iff_eq.mpr c6
        have c6b1 : (a0 != 69) = false := bne_eq_false_iff_eq.mpr c6
        clear c6
        (first | rw [c6b0] | (simp only [i64_w, i32_w]; rw [c6b0]) | skip)
        have H' := Aside0.mk H
        clear H
        go_wp2
        go_meet
        case rel => exact ⟨_, (true), (by first | rfl | (simp; done) | (simp [*]; done)), H', ⟨by first | omega | exact Nat.le_refl _⟩, by repeat (first | exact Drawn0.refl _ | apply Drawn0.step)⟩
      · rw [if_neg c6] at H
        have c6b0 : (a0 == 69) = false := beq_eq_false_iff_ne.mpr c6
        have c6b1 : (a0 != 69) = true := bne_iff_ne.mpr c6
        (first | rw [c6b0] | (simp only [i64_w, i32_w]; rw [c6b0]) | skip)
        have H' := Aside0.mk H
        clear H
        go_wp2
        go_meet
        case rel => exact ⟨_, ((a0 == 80)), (by first | rfl | (simp; done) | (simp [*]; done)), H', ⟨by first | omega | exact Nat.le_refl _⟩, by repeat (first | exact Drawn0.refl _ | apply Drawn0.step)⟩
    case rest =>
      clear HC5
      try clear c1
      try clear p2
      try clear q2
      try clear hx2
      try clear qi2
      try clear c4
      try clear c4b0
      try clear c4b1
      try clear c6
      try clear c6b0
      try clear c6b1
      try clear hx201_0
      try clear p201
      try clear q201
      obtain ⟨kq, x13_4, rfl, HA, HJ4, ⟨mc4, rfl⟩⟩ := hcut
      cases kq with
      | zero => exact absurd HA.out (by simp [grommetref03_Eval.j0])
      | succ kj4 =>
        have H := HA.out
        clear HA
        simp only [grommetref03_Eval.j0] at H
        by_cases c7 : x13_4 = true
        · subst c7
          have H1 : ((grommetref03_truth.f ((rd l1 0) == 0)).bind fun t202 => (some (t202, 0))) = some (r1, r2) := by rw [if_pos rfl] at H; exact H
          clear H
          have H := H1
          clear H1
          replace H := Option.bind_eq_some_iff.mp H
          obtain ⟨t202, A80, H⟩ := H
          replace H : (some (t202, 0)) = some (r1, r2) := H
          have A8 := Aside0.mk A80
          clear A80
          simp only [Option.some.injEq, Prod.mk.injEq] at H
          obtain ⟨rfl, rfl⟩ := H
          go_wp2_with (first | ((with_reducible refine gate_callee (f := 23) rfl ?_); refine goesL_ (some 22) rfl rfl Tryd.func23 (by kernel_rfl) rfl #[.bool ((rd l1 0) == 0)] rfl (by (try simp only [List.map_toArray, List.map_cons, List.map_nil]); first | done | rfl | (simp only [List.length_drop, List.length_take]; rfl)) ?_; (with_reducible refine (grommetref03_truth.calls ((rd l1 0) == 0) t202 _ A8.out).mono ?_); rintro e w' ⟨rfl, ⟨nd, rfl⟩⟩; refine ⟨_, rfl, ?_⟩))
          go_ret2
          exact ⟨by first | rfl | (simp; done) | (simp [*]; done), by repeat (first | exact Drawn0.refl _ | apply Drawn0.step)⟩
        · replace c7 := Bool.eq_false_iff.mpr c7
          subst c7
          have H1 : (if a0 = 167 then (some (Int.tmod (rd l1 0) 4294967296, 0)) else (if a0 = 172 then ((grommetref03_negative.f (rd l1 0) 32).bind fun t203 => (if t203 = true then (some (IntKind.u64.wrap ((rd l1 0) + 18446744069414584320), 0)) else (some ((rd l1 0), 0)))) else (if a0 = 173 then (some ((rd l1 0), 0)) else (if a0 < 80 then (if 1 < (l1.length : Int) then ((grommetref03_compare.f kj4 (wrap64 (a0 - 70)) (rd l1 0) (rd l1 1) t200).bind fun t205 => ((grommetref03_truth.f t205).bind fun t206 => (some (t206, 0)))) else (none)) else (if a0 < 103 then (if 1 < (l1.length : Int) then ((grommetref03_compare.f kj4 (wrap64 (a0 - 81)) (rd l1 0) (rd l1 1) t200).bind fun t208 => ((grommetref03_truth.f t208).bind fun t209 => (some (t209, 0)))) else (none)) else (if a0 < 106 then ((grommetref03_count.f kj4 (wrap64 (a0 - 103)) (rd l1 0) t200).bind fun t210 => (some (t210, 0))) else (if a0 < 121 then (if 1 < (l1.length : Int) then ((grommetref03_two.f kj4 (wrap64 (a0 - 106)) (rd l1 0) (rd l1 1) t200).bind fun bt212 => (some (bt212.1, bt212.2))) else (none)) else (if a0 < 124 then ((grommetref03_count.f kj4 (wrap64 (a0 - 121)) (rd l1 0) t200).bind fun t214 => (some (t214, 0))) else (if 1 < (l1.length : Int) then ((grommetref03_two.f kj4 (wrap64 (a0 - 124)) (rd l1 0) (rd l1 1) t200).bind fun bt216 => (some (bt216.1, bt216.2))) else (none)))))))))) = some (r1, r2) := by rw [if_neg (show ¬ (false = true) by decide)] at H; exact H
          clear H
          have H := H1
          clear H1
          by_cases c9 : a0 = 167
          · rw [if_pos c9] at H
            have c9b0 : (a0 == 167) = true := beq_iff_eq.mpr c9
            have c9b1 : (a0 != 167) = false := bne_eq_false_iff_eq.mpr c9
            clear c9
            simp only [Option.some.injEq, Prod.mk.injEq] at H
            obtain ⟨rfl, rfl⟩ := H
            go_wp2
            go_ret2
            exact ⟨by first | rfl | (simp; done) | (simp [*]; done), by repeat (first | exact Drawn0.refl _ | apply Drawn0.step)⟩
          · rw [if_neg c9] at H
            have c9b0 : (a0 == 167) = false := beq_eq_false_iff_ne.mpr c9
            have c9b1 : (a0 != 167) = true := bne_iff_ne.mpr c9
            by_cases c10 : a0 = 172
            · rw [if_pos c10] at H
              have c10b0 : (a0 == 172) = true := beq_iff_eq.mpr c10
              have c10b1 : (a0 != 172) = false := bne_eq_false_iff_eq.mpr c10
              clear c10
              replace H := Option.bind_eq_some_iff.mp H
              obtain ⟨t203, A110, H⟩ := H
              replace H : (if t203 = true then (some (IntKind.u64.wrap ((rd l1 0) + 18446744069414584320), 0)) else (some ((rd l1 0), 0))) = some (r1, r2) := H
              have A11 := Aside0.mk A110
              clear A110
              by_cases c12 : t203 = true
              · subst c12
                have H1 : (some (IntKind.u64.wrap ((rd l1 0) + 18446744069414584320), 0)) = some (r1, r2) := by rw [if_pos rfl] at H; exact H
                clear H
                have H := H1
                clear H1
                simp only [Option.some.injEq, Prod.mk.injEq] at H
                obtain ⟨rfl, rfl⟩ := H
                go_wp2_with (first | ((with_reducible refine gate_callee (f := 24) rfl ?_); refine goesL_ (some 32) rfl rfl Tryd.func24 (by kernel_rfl) rfl #[.int .u64 (rd l1 0), .int .i64 32] rfl (by (try simp only [List.map_toArray, List.map_cons, List.map_nil]); first | done | rfl | (simp only [List.length_drop, List.length_take]; rfl)) ?_; (with_reducible refine (grommetref03_negative.calls (rd l1 0) 32 true _ A11.out).mono ?_); rintro e w' ⟨rfl, ⟨nd, rfl⟩⟩; refine ⟨_, rfl, ?_⟩))
                go_ret2
                exact ⟨by first | rfl | (simp; done) | (simp [*]; done), by repeat (first | exact Drawn0.refl _ | apply Drawn0.step)⟩
              · replace c12 := Bool.eq_false_iff.mpr c12
                subst c12
                have H1 : (some ((rd l1 0), 0)) = some (r1, r2) := by rw [if_neg (show ¬ (false = true) by decide)] at H; exact H
                clear H
                have H := H1
                clear H1
                simp only [Option.some.injEq, Prod.mk.injEq] at H
                obtain ⟨rfl, rfl⟩ := H
                go_wp2_with (first | ((with_reducible refine gate_callee (f := 24) rfl ?_); refine goesL_ (some 32) rfl rfl Tryd.func24 (by kernel_rfl) rfl #[.int .u64 (rd l1 0), .int .i64 32] rfl (by (try simp only [List.map_toArray, List.map_cons, List.map_nil]); first | done | rfl | (simp only [List.length_drop, List.length_take]; rfl)) ?_; (with_reducible refine (grommetref03_negative.calls (rd l1 0) 32 false _ A11.out).mono ?_); rintro e w' ⟨rfl, ⟨nd, rfl⟩⟩; refine ⟨_, rfl, ?_⟩))
                go_ret2
                exact ⟨by first | rfl | (simp; done) | (simp [*]; done), by repeat (first | exact Drawn0.refl _ | apply Drawn0.step)⟩
            · rw [if_neg c10] at H
              have c10b0 : (a0 == 172) = false := beq_eq_false_iff_ne.mpr c10
              have c10b1 : (a0 != 172) = true := bne_iff_ne.mpr c10
              by_cases c13 : a0 = 173
              · rw [if_pos c13] at H
                have c13b0 : (a0 == 173) = true := beq_iff_eq.mpr c13
                have c13b1 : (a0 != 173) = false := bne_eq_false_iff_eq.mpr c13
                clear c13
                simp only [Option.some.injEq, Prod.mk.injEq] at H
                obtain ⟨rfl, rfl⟩ := H
                go_wp2
                go_ret2
                exact ⟨by first | rfl | (simp; done) | (simp [*]; done), by repeat (first | exact Drawn0.refl _ | apply Drawn0.step)⟩
              · rw [if_neg c13] at H
                have c13b0 : (a0 == 173) = false := beq_eq_false_iff_ne.mpr c13
                have c13b1 : (a0 != 173) = true := bne_iff_ne.mpr c13
                by_cases c14 : a0 < 80
                · rw [if_pos c14] at H
                  have c14b0 : decide (a0 < 80) = true := decide_eq_true c14
                  clear c14
                  by_cases c15 : 1 < (l1.length : Int)
                  · rw [if_pos c15] at H
                    have c15b0 : decide (1 < (l1.length : Int)) = true := decide_eq_true c15
                    have c15b1 : decide (1 < l1.length) = true := decide_eq_true (by omega)
                    clear c15
                    replace H := Option.bind_eq_some_iff.mp H
                    obtain ⟨t205, A160, H⟩ := H
                    replace H : ((grommetref03_truth.f t205).bind fun t206 => (some (t206, 0))) = some (r1, r2) := H
                    have A16 := Aside0.mk A160
                    clear A160
                    replace H := Option.bind_eq_some_iff.mp H
                    obtain ⟨t206, A170, H⟩ := H
                    replace H : (some (t206, 0)) = some (r1, r2) := H
                    have A17 := Aside0.mk A170
                    clear A170
                    simp only [Option.some.injEq, Prod.mk.injEq] at H
                    obtain ⟨rfl, rfl⟩ := H
                    have p204 : 0 ≤ (1 : Int) := (by omega)
                    have q204 : 1 < (l1.length : Int) := of_decide_eq_true (by first | (with_reducible assumption) | assumption)
                    obtain ⟨ad204, e204, hx204_0⟩ := Kd.at_int HR1.out 1 p204 q204
                    obtain rfl : ad201 = ad204 := (by injection e204)
                    (try simp only [show (1 : Int).toNat = 1 from rfl, Nat.reduceMul, Nat.reduceEqDiff, Go.Addr.add, ↓reduceIte] at hx204_0)
                    have qi204 : (1 < l1.length) = True := eq_true (by omega)
                    (try rw [show ((1 : Int)).toNat = 1 from rfl] at hx204_0)
                    replace p204 := eq_true p204
                    replace q204 := eq_true q204
                    go_wp2_with (first | ((with_reducible refine gate_callee (f := 25) rfl ?_); refine goesL_ (some 50) rfl rfl Tryd.func25 (by kernel_rfl) rfl #[.int .i64 (wrap64 (a0 - 70)), .int .u64 (rd l1 0), .int .u64 (rd l1 1), .int .i64 t200] rfl (by (try simp only [List.map_toArray, List.map_cons, List.map_nil]); first | done | rfl | (simp only [List.length_drop, List.length_take]; rfl)) ?_; (with_reducible refine (grommetref03_compare.calls kj4 (wrap64 (a0 - 70)) (rd l1 0) (rd l1 1) t200 t205 _ A16.out).mono ?_); rintro e w' ⟨rfl, ⟨nd, rfl⟩⟩; refine ⟨_, rfl, ?_⟩) | ((with_reducible refine gate_callee (f := 23) rfl ?_); refine goesL_ (some 51) rfl rfl Tryd.func23 (by kernel_rfl) rfl #[.bool t205] rfl (by (try simp only [List.map_toArray, List.map_cons, List.map_nil]); first | done | rfl | (simp only [List.length_drop, List.length_take]; rfl)) ?_; (with_reducible refine (grommetref03_truth.calls t205 t206 _ A17.out).mono ?_); rintro e w' ⟨rfl, ⟨nd, rfl⟩⟩; refine ⟨_, rfl, ?_⟩))
                    go_ret2
                    exact ⟨by first | rfl | (simp; done) | (simp [*]; done), by repeat (first | exact Drawn0.refl _ | apply Drawn0.step)⟩
                  · rw [if_neg c15] at H
                    exact absurd H (by simp)
                · rw [if_neg c14] at H
                  have c14b0 : decide (a0 < 80) = false := decide_eq_false c14
                  clear c14
                  by_cases c18 : a0 < 103
                  · rw [if_pos c18] at H
                    have c18b0 : decide (a0 < 103) = true := decide_eq_true c18
                    clear c18
                    by_cases c19 : 1 < (l1.length : Int)
                    · rw [if_pos c19] at H
                      have c19b0 : decide (1 < (l1.length : Int)) = true := decide_eq_true c19
                      have c19b1 : decide (1 < l1.length) = true := decide_eq_true (by omega)
                      clear c19
                      replace H := Option.bind_eq_some_iff.mp H
                      obtain ⟨t208, A200, H⟩ := H
                      replace H : ((grommetref03_truth.f t208).bind fun t209 => (some (t209, 0))) = some (r1, r2) := H
                      have A20 := Aside0.mk A200
                      clear A200
                      replace H := Option.bind_eq_some_iff.mp H
                      obtain ⟨t209, A210, H⟩ := H
                      replace H : (some (t209, 0)) = some (r1, r2) := H
                      have A21 := Aside0.mk A210
                      clear A210
                      simp only [Option.some.injEq, Prod.mk.injEq] at H
                      obtain ⟨rfl, rfl⟩ := H
                      have p207 : 0 ≤ (1 : Int) := (by omega)
                      have q207 : 1 < (l1.length : Int) := of_decide_eq_true (by first | (with_reducible assumption) | assumption)
                      obtain ⟨ad207, e207, hx207_0⟩ := Kd.at_int HR1.out 1 p207 q207
                      obtain rfl : ad201 = ad207 := (by injection e207)
                      (try simp only [show (1 : Int).toNat = 1 from rfl, Nat.reduceMul, Nat.reduceEqDiff, Go.Addr.add, ↓reduceIte] at hx207_0)
                      have qi207 : (1 < l1.length) = True := eq_true (by omega)
                      (try rw [show ((1 : Int)).toNat = 1 from rfl] at hx207_0)
                      replace p207 := eq_true p207
                      replace q207 := eq_true q207
                      go_wp2_with (first | ((with_reducible refine gate_callee (f := 25) rfl ?_); refine goesL_ (some 62) rfl rfl Tryd.func25 (by kernel_rfl) rfl #[.int .i64 (wrap64 (a0 - 81)), .int .u64 (rd l1 0), .int .u64 (rd l1 1), .int .i64 t200] rfl (by (try simp only [List.map_toArray, List.map_cons, List.map_nil]); first | done | rfl | (simp only [List.length_drop, List.length_take]; rfl)) ?_; (with_reducible refine (grommetref03_compare.calls kj4 (wrap64 (a0 - 81)) (rd l1 0) (rd l1 1) t200 t208 _ A20.out).mono ?_); rintro e w' ⟨rfl, ⟨nd, rfl⟩⟩; refine ⟨_, rfl, ?_⟩) | ((with_reducible refine gate_callee (f := 23) rfl ?_); refine goesL_ (some 63) rfl rfl Tryd.func23 (by kernel_rfl) rfl #[.bool t208] rfl (by (try simp only [List.map_toArray, List.map_cons, List.map_nil]); first | done | rfl | (simp only [List.length_drop, List.length_take]; rfl)) ?_; (with_reducible refine (grommetref03_truth.calls t208 t209 _ A21.out).mono ?_); rintro e w' ⟨rfl, ⟨nd, rfl⟩⟩; refine ⟨_, rfl, ?_⟩))
                      go_ret2
                      exact ⟨by first | rfl | (simp; done) | (simp [*]; done), by repeat (first | exact Drawn0.refl _ | apply Drawn0.step)⟩
                    · rw [if_neg c19] at H
                      exact absurd H (by simp)
                  · rw [if_neg c18] at H
                    have c18b0 : decide (a0 < 103) = false := decide_eq_false c18
                    clear c18
                    by_cases c22 : a0 < 106
                    · rw [if_pos c22] at H
                      have c22b0 : decide (a0 < 106) = true := decide_eq_true c22
                      clear c22
                      replace H := Option.bind_eq_some_iff.mp H
                      obtain ⟨t210, A230, H⟩ := H
                      replace H : (some (t210, 0)) = some (r1, r2) := H
                      have A23 := Aside0.mk A230
                      clear A230
                      simp only [Option.some.injEq, Prod.mk.injEq] at H
                      obtain ⟨rfl, rfl⟩ := H
                      go_wp2_with (first | ((with_reducible refine gate_callee (f := 26) rfl ?_); refine goesL_ (some 71) rfl rfl Tryd.func26 (by kernel_rfl) rfl #[.int .i64 (wrap64 (a0 - 103)), .int .u64 (rd l1 0), .int .i64 t200] rfl (by (try simp only [List.map_toArray, List.map_cons, List.map_nil]); first | done | rfl | (simp only [List.length_drop, List.length_take]; rfl)) ?_; (with_reducible refine (grommetref03_count.calls kj4 (wrap64 (a0 - 103)) (rd l1 0) t200 t210 _ A23.out).mono ?_); rintro e w' ⟨rfl, ⟨nd, rfl⟩⟩; refine ⟨_, rfl, ?_⟩))
                      go_ret2
                      exact ⟨by first | rfl | (simp; done) | (simp [*]; done), by repeat (first | exact Drawn0.refl _ | apply Drawn0.step)⟩
                    · rw [if_neg c22] at H
                      have c22b0 : decide (a0 < 106) = false := decide_eq_false c22
                      clear c22
                      by_cases c24 : a0 < 121
                      · rw [if_pos c24] at H
                        have c24b0 : decide (a0 < 121) = true := decide_eq_true c24
                        clear c24
                        by_cases c25 : 1 < (l1.length : Int)
                        · rw [if_pos c25] at H
                          have c25b0 : decide (1 < (l1.length : Int)) = true := decide_eq_true c25
                          have c25b1 : decide (1 < l1.length) = true := decide_eq_true (by omega)
                          clear c25
                          replace H := Option.bind_eq_some_iff.mp H
                          obtain ⟨⟨t212, t213⟩, A260, H⟩ := H
                          replace H : (some (t212, t213)) = some (r1, r2) := H
                          have A26 := Aside0.mk A260
                          clear A260
                          simp only [Option.some.injEq, Prod.mk.injEq] at H
                          obtain ⟨rfl, rfl⟩ := H
                          have p211 : 0 ≤ (1 : Int) := (by omega)
                          have q211 : 1 < (l1.length : Int) := of_decide_eq_true (by first | (with_reducible assumption) | assumption)
                          obtain ⟨ad211, e211, hx211_0⟩ := Kd.at_int HR1.out 1 p211 q211
                          obtain rfl : ad201 = ad211 := (by injection e211)
                          (try simp only [show (1 : Int).toNat = 1 from rfl, Nat.reduceMul, Nat.reduceEqDiff, Go.Addr.add, ↓reduceIte] at hx211_0)
                          have qi211 : (1 < l1.length) = True := eq_true (by omega)
                          (try rw [show ((1 : Int)).toNat = 1 from rfl] at hx211_0)
                          replace p211 := eq_true p211
                          replace q211 := eq_true q211
                          go_wp2_with (first | ((with_reducible refine gate_callee (f := 27) rfl ?_); refine goesL_ (some 82) rfl rfl Tryd.func27 (by kernel_rfl) rfl #[.int .i64 (wrap64 (a0 - 106)), .int .u64 (rd l1 0), .int .u64 (rd l1 1), .int .i64 t200] rfl (by (try simp only [List.map_toArray, List.map_cons, List.map_nil]); first | done | rfl | (simp only [List.length_drop, List.length_take]; rfl)) ?_; (with_reducible refine (grommetref03_two.calls kj4 (wrap64 (a0 - 106)) (rd l1 0) (rd l1 1) t200 t212 t213 _ A26.out).mono ?_); rintro e w' ⟨rfl, ⟨nd, rfl⟩⟩; refine ⟨_, rfl, ?_⟩))
                          go_ret2
                          exact ⟨by first | rfl | (simp; done) | (simp [*]; done), by repeat (first | exact Drawn0.refl _ | apply Drawn0.step)⟩
                        · rw [if_neg c25] at H
                          exact absurd H (by simp)
                      · rw [if_neg c24] at H
                        have c24b0 : decide (a0 < 121) = false := decide_eq_false c24
                        clear c24
                        by_cases c27 : a0 < 124
                        · rw [if_pos c27] at H
                          have c27b0 : decide (a0 < 124) = true := decide_eq_true c27
                          clear c27
                          replace H := Option.bind_eq_some_iff.mp H
                          obtain ⟨t214, A280, H⟩ := H
                          replace H : (some (t214, 0)) = some (r1, r2) := H
                          have A28 := Aside0.mk A280
                          clear A280
                          simp only [Option.some.injEq, Prod.mk.injEq] at H
                          obtain ⟨rfl, rfl⟩ := H
                          go_wp2_with (first | ((with_reducible refine gate_callee (f := 26) rfl ?_); refine goesL_ (some 92) rfl rfl Tryd.func26 (by kernel_rfl) rfl #[.int .i64 (wrap64 (a0 - 121)), .int .u64 (rd l1 0), .int .i64 t200] rfl (by (try simp only [List.map_toArray, List.map_cons, List.map_nil]); first | done | rfl | (simp only [List.length_drop, List.length_take]; rfl)) ?_; (with_reducible refine (grommetref03_count.calls kj4 (wrap64 (a0 - 121)) (rd l1 0) t200 t214 _ A28.out).mono ?_); rintro e w' ⟨rfl, ⟨nd, rfl⟩⟩; refine ⟨_, rfl, ?_⟩))
                          go_ret2
                          exact ⟨by first | rfl | (simp; done) | (simp [*]; done), by repeat (first | exact Drawn0.refl _ | apply Drawn0.step)⟩
                        · rw [if_neg c27] at H
                          have c27b0 : decide (a0 < 124) = false := decide_eq_false c27
                          clear c27
                          by_cases c29 : 1 < (l1.length : Int)
                          · rw [if_pos c29] at H
                            have c29b0 : decide (1 < (l1.length : Int)) = true := decide_eq_true c29
                            have c29b1 : decide (1 < l1.length) = true := decide_eq_true (by omega)
                            clear c29
                            replace H := Option.bind_eq_some_iff.mp H
                            obtain ⟨⟨t216, t217⟩, A300, H⟩ := H
                            replace H : (some (t216, t217)) = some (r1, r2) := H
                            have A30 := Aside0.mk A300
                            clear A300
                            simp only [Option.some.injEq, Prod.mk.injEq] at H
                            obtain ⟨rfl, rfl⟩ := H
                            have p215 : 0 ≤ (1 : Int) := (by omega)
                            have q215 : 1 < (l1.length : Int) := of_decide_eq_true (by first | (with_reducible assumption) | assumption)
                            obtain ⟨ad215, e215, hx215_0⟩ := Kd.at_int HR1.out 1 p215 q215
                            obtain rfl : ad201 = ad215 := (by injection e215)
                            (try simp only [show (1 : Int).toNat = 1 from rfl, Nat.reduceMul, Nat.reduceEqDiff, Go.Addr.add, ↓reduceIte] at hx215_0)
                            have qi215 : (1 < l1.length) = True := eq_true (by omega)
                            (try rw [show ((1 : Int)).toNat = 1 from rfl] at hx215_0)
                            replace p215 := eq_true p215
                            replace q215 := eq_true q215
                            go_wp2_with (first | ((with_reducible refine gate_callee (f := 27) rfl ?_); refine goesL_ (some 100) rfl rfl Tryd.func27 (by kernel_rfl) rfl #[.int .i64 (wrap64 (a0 - 124)), .int .u64 (rd l1 0), .int .u64 (rd l1 1), .int .i64 t200] rfl (by (try simp only [List.map_toArray, List.map_cons, List.map_nil]); first | done | rfl | (simp only [List.length_drop, List.length_take]; rfl)) ?_; (with_reducible refine (grommetref03_two.calls kj4 (wrap64 (a0 - 124)) (rd l1 0) (rd l1 1) t200 t216 t217 _ A30.out).mono ?_); rintro e w' ⟨rfl, ⟨nd, rfl⟩⟩; refine ⟨_, rfl, ?_⟩))
                            go_ret2
                            exact ⟨by first | rfl | (simp; done) | (simp [*]; done), by repeat (first | exact Drawn0.refl _ | apply Drawn0.step)⟩
                          · rw [if_neg c29] at H
                            exact absurd H (by simp)
  · rw [if_neg c4] at H
    exact absurd H (by simp)

/-! ### grommetlaw03_NumEvals: function 4 -/
mutual
def grommetlaw03_NumEvals.j0 : Nat → Int → List Int → Bool → Int → Int → Option Int → Bool → Option (Bool)
  | 0, _, _, _, _, _, _, _ => none
  | k + 1, x0, x1, x5, x6, x7, x8, x10 => grommetlaw03_NumEvals.l0 k x0 x1 x5 x6 x7 x8 x10 0
def grommetlaw03_NumEvals.l0 : Nat → Int → List Int → Bool → Int → Int → Option Int → Bool → Int → Option (Bool)
  | 0, _, _, _, _, _, _, _, _ => none
  | k + 1, x0, x1, x5, x6, x7, x8, x10, x11 => if x11 < (x1.length : Int) then (if x10 = true then ((grommetref03_Bits.f x0).bind fun t223 => (if t223 = 64 then (grommetlaw03_NumEvals.l0 k x0 x1 x5 x6 x7 x8 true (wrap64 (x11 + 1))) else (if 0 ≤ x11 then (grommetlaw03_NumEvals.l0 k x0 x1 x5 x6 x7 x8 (decide ((rd x1 x11) < 4294967296)) (wrap64 (x11 + 1))) else (none)))) else (if x5 = true then (if x8.isNone = true then (some false) else (if (x8.getD 0) = 1 then (if x6 = 0 then (some (x7 == 0)) else (some false)) else (some false))) else (some false))) else (if x10 = true then ((grommetref03_Eval.f k x0 x1).bind fun bt226 => (if x5 = true then (if x8.isNone = true then (if x6 = bt226.1 then (some (x7 == bt226.2)) else (some false)) else (some false)) else (some false))) else (if x5 = true then (if x8.isNone = true then (some false) else (if (x8.getD 0) = 1 then (if x6 = 0 then (some (x7 == 0)) else (some false)) else (some false))) else (some false)))
end
def grommetlaw03_NumEvals.f (k : Nat) (a0 : Int) (l1 : List Int) : Option (Bool) := (grommetlaw03_up.f k).bind fun t218 => (if (l1.length : Int) > 100 then (some t218) else ((num_Eval.f k a0 l1).bind fun bt219 => ((grommetref03_Args.f k a0).bind fun t222 => (if t222 ≥ 0 then (grommetlaw03_NumEvals.j0 k a0 l1 t218 bt219.1 bt219.2.1 bt219.2.2 (t222 == (l1.length : Int))) else (grommetlaw03_NumEvals.j0 k a0 l1 t218 bt219.1 bt219.2.1 bt219.2.2 false)))))
theorem grommetlaw03_NumEvals.mono_l : ∀ k, (∀ y0 y1 y2 y3 y4 y5 y6, LeO (grommetlaw03_NumEvals.j0 k y0 y1 y2 y3 y4 y5 y6) (grommetlaw03_NumEvals.j0 (k + 1) y0 y1 y2 y3 y4 y5 y6)) ∧ (∀ y0 y1 y2 y3 y4 y5 y6 y7, LeO (grommetlaw03_NumEvals.l0 k y0 y1 y2 y3 y4 y5 y6 y7) (grommetlaw03_NumEvals.l0 (k + 1) y0 y1 y2 y3 y4 y5 y6 y7))
  | 0 => ⟨fun _ _ _ _ _ _ _ r h => by simp [grommetlaw03_NumEvals.j0] at h, fun _ _ _ _ _ _ _ _ r h => by simp [grommetlaw03_NumEvals.l0] at h⟩
  | k + 1 => by
    obtain ⟨ih0, ih1⟩ := grommetlaw03_NumEvals.mono_l k
    refine ⟨?_, ?_⟩
    · intro y0 y1 y2 y3 y4 y5 y6
      unfold grommetlaw03_NumEvals.j0
      repeat' first
      | (with_reducible exact ih0 _ _ _ _ _ _ _)
      | (with_reducible exact ih1 _ _ _ _ _ _ _ _)
      | (with_reducible exact grommetlaw03_up.mono _)
      | (with_reducible exact grommetref03_Args.mono _ _)
      | (with_reducible exact grommetref03_Eval.mono _ _ _)
      | (with_reducible exact num_Eval.mono _ _ _)
      | (with_reducible exact LeO.refl _)
      | (with_reducible exact LeO.none _)
      | (with_reducible refine LeO.ite ?_ ?_)
      | (with_reducible refine LeO.bind ?_ (fun _ => ?_))
      | exact ih0 _ _ _ _ _ _ _
      | exact ih1 _ _ _ _ _ _ _ _
      | exact grommetlaw03_up.mono _
      | exact grommetref03_Args.mono _ _
      | exact grommetref03_Eval.mono _ _ _
      | exact num_Eval.mono _ _ _
      | exact LeO.none _
      | refine LeO.ite ?_ ?_
      | refine LeO.bind ?_ (fun _ => ?_)
    · intro y0 y1 y2 y3 y4 y5 y6 y7
      unfold grommetlaw03_NumEvals.l0
      repeat' first
      | (with_reducible exact ih0 _ _ _ _ _ _ _)
      | (with_reducible exact ih1 _ _ _ _ _ _ _ _)
      | (with_reducible exact grommetlaw03_up.mono _)
      | (with_reducible exact grommetref03_Args.mono _ _)
      | (with_reducible exact grommetref03_Eval.mono _ _ _)
      | (with_reducible exact num_Eval.mono _ _ _)
      | (with_reducible exact LeO.refl _)
      | (with_reducible exact LeO.none _)
      | (with_reducible refine LeO.ite ?_ ?_)
      | (with_reducible refine LeO.bind ?_ (fun _ => ?_))
      | exact ih0 _ _ _ _ _ _ _
      | exact ih1 _ _ _ _ _ _ _ _
      | exact grommetlaw03_up.mono _
      | exact grommetref03_Args.mono _ _
      | exact grommetref03_Eval.mono _ _ _
      | exact num_Eval.mono _ _ _
      | exact LeO.none _
      | refine LeO.ite ?_ ?_
      | refine LeO.bind ?_ (fun _ => ?_)
theorem grommetlaw03_NumEvals.mono : ∀ a0 a1 k, LeO (grommetlaw03_NumEvals.f k a0 a1) (grommetlaw03_NumEvals.f (k + 1) a0 a1) := by
  intro a0 a1 k
  obtain ⟨ih0, ih1⟩ := grommetlaw03_NumEvals.mono_l k
  unfold grommetlaw03_NumEvals.f
  repeat' first
      | (with_reducible exact ih0 _ _ _ _ _ _ _)
      | (with_reducible exact ih1 _ _ _ _ _ _ _ _)
      | (with_reducible exact grommetlaw03_up.mono _)
      | (with_reducible exact grommetref03_Args.mono _ _)
      | (with_reducible exact grommetref03_Eval.mono _ _ _)
      | (with_reducible exact num_Eval.mono _ _ _)
      | (with_reducible exact LeO.refl _)
      | (with_reducible exact LeO.none _)
      | (with_reducible refine LeO.ite ?_ ?_)
      | (with_reducible refine LeO.bind ?_ (fun _ => ?_))
      | exact ih0 _ _ _ _ _ _ _
      | exact ih1 _ _ _ _ _ _ _ _
      | exact grommetlaw03_up.mono _
      | exact grommetref03_Args.mono _ _
      | exact grommetref03_Eval.mono _ _ _
      | exact num_Eval.mono _ _ _
      | exact LeO.none _
      | refine LeO.ite ?_ ?_
      | refine LeO.bind ?_ (fun _ => ?_)
set_option maxHeartbeats 8000000 in
set_option maxRecDepth 100000 in
theorem grommetlaw03_NumEvals.calls (k : Nat) (a0 : Int) (A1 : Option Addr) (c1 : Nat) (l1 : List Int) (r : Bool) (w : World) (hG : GL w) (hr1 : Kd.C (Kd.int .u64) w A1 l1.length l1) (hc1 : l1.length ≤ c1) (h : grommetlaw03_NumEvals.f k a0 l1 = some r) (hrt : r = true) :
    Calls Tryd.prog 4 #[.int .i64 a0, .slice A1 l1.length c1] w fun e w' => e = .returned (.bool r) ∧ Below w.heap.size w w' := by
  have HRT := Aside0.mk hrt
  clear hrt
  have hu30 := Tryd.underlying30
  have hu33 := Tryd.underlying33
  have HGL := Aside0.mk hG
  clear hG
  have HR1 := Aside0.mk hr1
  have HC1 := Aside0.mk hc1
  clear hr1 hc1
  have HB := Aside0.mk (Below.refl w.heap.size w)
  have H : ((grommetlaw03_up.f k).bind fun t218 => (if (l1.length : Int) > 100 then (some t218) else ((num_Eval.f k a0 l1).bind fun bt219 => ((grommetref03_Args.f k a0).bind fun t222 => (if t222 ≥ 0 then (grommetlaw03_NumEvals.j0 k a0 l1 t218 bt219.1 bt219.2.1 bt219.2.2 (t222 == (l1.length : Int))) else (grommetlaw03_NumEvals.j0 k a0 l1 t218 bt219.1 bt219.2.1 bt219.2.2 false)))))) = some r := h
  clear h
  replace H := Option.bind_eq_some_iff.mp H
  obtain ⟨t218, A30, H⟩ := H
  replace H : (if (l1.length : Int) > 100 then (some t218) else ((num_Eval.f k a0 l1).bind fun bt219 => ((grommetref03_Args.f k a0).bind fun t222 => (if t222 ≥ 0 then (grommetlaw03_NumEvals.j0 k a0 l1 t218 bt219.1 bt219.2.1 bt219.2.2 (t222 == (l1.length : Int))) else (grommetlaw03_NumEvals.j0 k a0 l1 t218 bt219.1 bt219.2.1 bt219.2.2 false))))) = some r := H
  have A3 := Aside0.mk A30
  clear A30
  by_cases c4 : (l1.length : Int) > 100
  · rw [if_pos c4] at H
    have c4b0 : decide (100 < (l1.length : Int)) = true := decide_eq_true c4
    have c4b1 : decide (100 < l1.length) = true := decide_eq_true (by omega)
    clear c4
    obtain rfl := Option.some.inj H
    go_enter Tryd.func4, Tryd.ntmps4
    go_wp2_with (first | ((with_reducible refine gate_callee (f := 10) rfl ?_); refine goesL_ (some 14) rfl rfl Tryd.func10 (by kernel_rfl) rfl #[] rfl (by (try simp only [List.map_toArray, List.map_cons, List.map_nil]); first | done | rfl | (simp only [List.length_drop, List.length_take]; rfl)) ?_; (with_reducible refine (grommetlaw03_up.calls k  t218 _ (GL_at HGL.out (by repeat (first | (with_reducible first | exact HB.out | apply below_alloc | apply pw_below_drewN | apply below_drew1) | exact HB.out))) A3.out).mono ?_); rintro e w5 ⟨rfl, hb⟩; refine ⟨_, rfl, ?_⟩; have n0_ := Aside0.mk (below_step (by repeat (first | (with_reducible first | exact HB.out | apply below_alloc | apply pw_below_drewN | apply below_drew1) | exact HB.out)) hb); clear HB; have HB := n0_; clear n0_; (try clear hb); (try clear hb2); (try clear hk); (try clear hi)))
    go_ret
    exact ⟨by first | rfl | (simp [errW_none, errW_some] <;> rfl) | (simp [*, errW_none, errW_some] <;> rfl), by repeat (first | (with_reducible first | exact HB.out | apply below_alloc | apply pw_below_drewN | apply below_drew1) | exact HB.out)⟩
  · rw [if_neg c4] at H
    have c4b0 : decide (100 < (l1.length : Int)) = false := decide_eq_false c4
    have c4b1 : decide (100 < l1.length) = false := decide_eq_false (by omega)
    clear c4
    replace H := Option.bind_eq_some_iff.mp H
    obtain ⟨⟨t219, t220, t221⟩, A60, H⟩ := H
    replace H : ((grommetref03_Args.f k a0).bind fun t222 => (if t222 ≥ 0 then (grommetlaw03_NumEvals.j0 k a0 l1 t218 t219 t220 t221 (t222 == (l1.length : Int))) else (grommetlaw03_NumEvals.j0 k a0 l1 t218 t219 t220 t221 false))) = some r := H
    have A6 := Aside0.mk A60
    clear A60
    replace H := Option.bind_eq_some_iff.mp H
    obtain ⟨t222, A70, H⟩ := H
    replace H : (if t222 ≥ 0 then (grommetlaw03_NumEvals.j0 k a0 l1 t218 t219 t220 t221 (t222 == (l1.length : Int))) else (grommetlaw03_NumEvals.j0 k a0 l1 t218 t219 t220 t221 false)) = some r := H
    have A7 := Aside0.mk A70
    clear A70
    have HC8 := Aside0.mk H
    clear H
    go_enter Tryd.func4, Tryd.ntmps4
    go_upto_region 6 with (first | ((with_reducible refine gate_callee (f := 10) rfl ?_); refine goesL_ (some 14) rfl rfl Tryd.func10 (by kernel_rfl) rfl #[] rfl (by (try simp only [List.map_toArray, List.map_cons, List.map_nil]); first | done | rfl | (simp only [List.length_drop, List.length_take]; rfl)) ?_; (with_reducible refine (grommetlaw03_up.calls k  t218 _ (GL_at HGL.out (by repeat (first | (with_reducible first | exact HB.out | apply below_alloc | apply pw_below_drewN | apply below_drew1) | exact HB.out))) A3.out).mono ?_); rintro e w9 ⟨rfl, hb⟩; refine ⟨_, rfl, ?_⟩; have n0_ := Aside0.mk (below_step (by repeat (first | (with_reducible first | exact HB.out | apply below_alloc | apply pw_below_drewN | apply below_drew1) | exact HB.out)) hb); clear HB; have HB := n0_; clear n0_; (try clear hb); (try clear hb2); (try clear hk); (try clear hi)) | ((with_reducible refine gate_callee (f := 13) rfl ?_); refine goesL_ (some 22) rfl rfl Tryd.func13 (by kernel_rfl) rfl #[.int .i64 a0, .slice A1 l1.length c1] rfl (by (try simp only [List.map_toArray, List.map_cons, List.map_nil]); first | done | rfl | (simp only [List.length_drop, List.length_take]; rfl)) ?_; (with_reducible refine (num_Eval.calls k a0 _ _ l1 t219 t220 t221 _ (GL_at HGL.out (by repeat (first | (with_reducible first | exact HB.out | apply below_alloc | apply pw_below_drewN | apply below_drew1) | exact HB.out))) ?side1 ?side2 A6.out).mono ?_); (case side1 => repeat (first | exact (Kd.C_below HR1.out HB.out) | (with_reducible refine Kd.C_alloc ?_ _) | (with_reducible refine Kd.C_drewN ?_ _) | (with_reducible refine Kd.C_drew ?_))); (case side2 => exact HC1.out); rintro e w10 ⟨rfl, hb⟩; refine ⟨_, rfl, ?_⟩; have n0_ := Aside0.mk (below_step (by repeat (first | (with_reducible first | exact HB.out | apply below_alloc | apply pw_below_drewN | apply below_drew1) | exact HB.out)) hb); clear HB; have HB := n0_; clear n0_; (try clear hb); (try clear hb2); (try clear hk); (try clear hi); (try simp only [errW_none, errW_some])) | ((with_reducible refine gate_callee (f := 12) rfl ?_); refine goesL_ (some 27) rfl rfl Tryd.func12 (by kernel_rfl) rfl #[.int .i64 a0] rfl (by (try simp only [List.map_toArray, List.map_cons, List.map_nil]); first | done | rfl | (simp only [List.length_drop, List.length_take]; rfl)) ?_; (with_reducible refine (grommetref03_Args.calls k a0 t222 _ A7.out).mono ?_); rintro e w' ⟨rfl, ⟨nd, rfl⟩⟩; refine ⟨_, rfl, ?_⟩))
    (try simp only [Act.put, List.setIfInBounds_toArray, List.set_cons_zero, List.set_cons_succ])
    go_cut [10] (fun v10 wc => ∃ (kq : Nat) (x10_7 : Bool), v10 = .bool x10_7 ∧ Aside0 (grommetlaw03_NumEvals.j0 kq a0 l1 t218 t219 t220 t221 x10_7 = some r) ∧ Aside0 (kq ≤ k) ∧ Aside0 (Below w.heap.size w wc))
    case first =>
      have H := HC8.out
      clear HC8
      by_cases c11 : t222 ≥ 0
      · rw [if_pos c11] at H
        have c11b0 : decide (0 ≤ t222) = true := decide_eq_true c11
        clear c11
        (first | rw [c11b0] | (simp only [i64_w, i32_w]; rw [c11b0]) | skip)
        have H' := Aside0.mk H
        clear H
        go_wp2
        go_meet
        case rel => exact ⟨_, ((t222 == (l1.length : Int))), (by first | rfl | (simp; done) | (simp [*]; done)), H', ⟨by first | omega | exact Nat.le_refl _⟩, ⟨by repeat (first | (with_reducible first | exact HB.out | apply below_alloc | apply pw_below_drewN | apply below_drew1) | exact HB.out)⟩⟩
      · rw [if_neg c11] at H
        have c11b0 : decide (0 ≤ t222) = false := decide_eq_false c11
        clear c11
        (first | rw [c11b0] | (simp only [i64_w, i32_w]; rw [c11b0]) | skip)
        have H' := Aside0.mk H
        clear H
        go_wp2
        go_meet
        case rel => exact ⟨_, (false), (by first | rfl | (simp; done) | (simp [*]; done)), H', ⟨by first | omega | exact Nat.le_refl _⟩, ⟨by repeat (first | (with_reducible first | exact HB.out | apply below_alloc | apply pw_below_drewN | apply below_drew1) | exact HB.out)⟩⟩
    case rest =>
      clear HC8
      try clear c1
      try clear p2
      try clear c4
      try clear c4b0
      try clear c4b1
      try clear c10
      try clear c11
      try clear c11b0
      obtain ⟨kq, x10_7, rfl, HA, HJ7, HB⟩ := hcut
      cases kq with
      | zero => exact absurd HA.out (by simp [grommetlaw03_NumEvals.j0])
      | succ kj7 =>
        have H := HA.out
        clear HA
        simp only [grommetlaw03_NumEvals.j0] at H
        have H' := Aside0.mk H
        clear H
        go_wp2
        go_loopg [10, 11] kj7 (fun kq v10 v11 w' => ∃ (x10_2 : Bool) (x11_2 : Int), v10 = .bool x10_2 ∧ v11 = .int .i64 x11_2 ∧ Aside0 (grommetlaw03_NumEvals.l0 kq a0 l1 t218 t219 t220 t221 x10_2 x11_2 = some r) ∧ Aside0 (kq ≤ kj7) ∧ Aside0 (Below w.heap.size w w'))
        case atStart => exact ⟨(x10_7), (0), (by first | rfl | (simp; done) | (simp [*]; done)), (by first | rfl | (simp; done) | (simp [*]; done)), H', ⟨Nat.le_refl _⟩, ⟨by repeat (first | (with_reducible first | exact HB.out | apply below_alloc | apply pw_below_drewN | apply below_drew1) | exact HB.out)⟩⟩
        case round =>
          clear H'
          try clear c1
          try clear p2
          try clear c4
          try clear c4b0
          try clear c4b1
          try clear c10
          try clear c11
          try clear c11b0
          try clear p2
          obtain ⟨x10_2, x11_2, rfl, rfl, HA, HK2, HB⟩ := hrel
          cases gk with
          | zero => exact absurd HA.out (by simp [grommetlaw03_NumEvals.l0])
          | succ k2 =>
            have H := HA.out
            clear HA
            simp only [grommetlaw03_NumEvals.l0] at H
            by_cases c12 : x11_2 < (l1.length : Int)
            · rw [if_pos c12] at H
              have c12b0 : decide (x11_2 < (l1.length : Int)) = true := decide_eq_true c12
              clear c12
              by_cases c13 : x10_2 = true
              · subst c13
                have H1 : ((grommetref03_Bits.f a0).bind fun t223 => (if t223 = 64 then (grommetlaw03_NumEvals.l0 k2 a0 l1 t218 t219 t220 t221 true (wrap64 (x11_2 + 1))) else (if 0 ≤ x11_2 then (grommetlaw03_NumEvals.l0 k2 a0 l1 t218 t219 t220 t221 (decide ((rd l1 x11_2) < 4294967296)) (wrap64 (x11_2 + 1))) else (none)))) = some r := by rw [if_pos rfl] at H; exact H
                clear H
                have H := H1
                clear H1
                replace H := Option.bind_eq_some_iff.mp H
                obtain ⟨t223, A140, H⟩ := H
                replace H : (if t223 = 64 then (grommetlaw03_NumEvals.l0 k2 a0 l1 t218 t219 t220 t221 true (wrap64 (x11_2 + 1))) else (if 0 ≤ x11_2 then (grommetlaw03_NumEvals.l0 k2 a0 l1 t218 t219 t220 t221 (decide ((rd l1 x11_2) < 4294967296)) (wrap64 (x11_2 + 1))) else (none))) = some r := H
                have A14 := Aside0.mk A140
                clear A140
                by_cases c15 : t223 = 64
                · rw [if_pos c15] at H
                  have c15b0 : (t223 == 64) = true := beq_iff_eq.mpr c15
                  have c15b1 : (t223 != 64) = false := bne_eq_false_iff_eq.mpr c15
                  clear c15
                  have H' := Aside0.mk H
                  clear H
                  go_wp2_with (first | ((with_reducible refine gate_callee (f := 14) rfl ?_); refine goesL_ (some 46) rfl rfl Tryd.func14 (by kernel_rfl) rfl #[.int .i64 a0] rfl (by (try simp only [List.map_toArray, List.map_cons, List.map_nil]); first | done | rfl | (simp only [List.length_drop, List.length_take]; rfl)) ?_; (with_reducible refine (grommetref03_Bits.calls a0 t223 _ A14.out).mono ?_); rintro e w' ⟨rfl, ⟨nd, rfl⟩⟩; refine ⟨_, rfl, ?_⟩))
                  go_roundg k2
                  case measure => have := HJ7.out; have := HK2.out; omega
                  case rel => exact ⟨(true), (wrap64 (x11_2 + 1)), (by first | rfl | (simp; done) | (simp [*]; done)), (by first | rfl | (simp; done) | (simp [*]; done)), H', ⟨by have := HJ7.out; have := HK2.out; omega⟩, ⟨by repeat (first | (with_reducible first | exact HB.out | apply below_alloc | apply pw_below_drewN | apply below_drew1) | exact HB.out)⟩⟩
                · rw [if_neg c15] at H
                  have c15b0 : (t223 == 64) = false := beq_eq_false_iff_ne.mpr c15
                  have c15b1 : (t223 != 64) = true := bne_iff_ne.mpr c15
                  by_cases c16 : 0 ≤ x11_2
                  · rw [if_pos c16] at H
                    have c16b0 : decide (0 ≤ x11_2) = true := decide_eq_true c16
                    clear c16
                    have H' := Aside0.mk H
                    clear H
                    go_wp2_with (first | ((with_reducible refine gate_callee (f := 14) rfl ?_); refine goesL_ (some 46) rfl rfl Tryd.func14 (by kernel_rfl) rfl #[.int .i64 a0] rfl (by (try simp only [List.map_toArray, List.map_cons, List.map_nil]); first | done | rfl | (simp only [List.length_drop, List.length_take]; rfl)) ?_; (with_reducible refine (grommetref03_Bits.calls a0 t223 _ A14.out).mono ?_); rintro e w' ⟨rfl, ⟨nd, rfl⟩⟩; refine ⟨_, rfl, ?_⟩; have p224 : 0 ≤ (x11_2 : Int) := of_decide_eq_true (by first | (with_reducible assumption) | assumption); have q224 : x11_2 < (l1.length : Int) := of_decide_eq_true (by first | (with_reducible assumption) | assumption); obtain ⟨ad224, e224, hx224_0⟩ := Kd.at_int HR1.out x11_2 p224 q224; cases e224; replace hx224_0 := (HB.out.cell (World.block_lt_of_cell? w _ hx224_0)).trans hx224_0; replace p224 := eq_true p224; replace q224 := eq_true q224))
                    go_roundg k2
                    case measure => have := HJ7.out; have := HK2.out; omega
                    case rel => exact ⟨(decide ((rd l1 x11_2) < 4294967296)), (wrap64 (x11_2 + 1)), (by first | rfl | (simp; done) | (simp [*]; done)), (by first | rfl | (simp; done) | (simp [*]; done)), H', ⟨by have := HJ7.out; have := HK2.out; omega⟩, ⟨by repeat (first | (with_reducible first | exact HB.out | apply below_alloc | apply pw_below_drewN | apply below_drew1) | exact HB.out)⟩⟩
                  · rw [if_neg c16] at H
                    exact absurd H (by simp)
              · replace c13 := Bool.eq_false_iff.mpr c13
                subst c13
                have H1 : (if t218 = true then (if t221.isNone = true then (some false) else (if (t221.getD 0) = 1 then (if t219 = 0 then (some (t220 == 0)) else (some false)) else (some false))) else (some false)) = some r := by rw [if_neg (show ¬ (false = true) by decide)] at H; exact H
                clear H
                have H := H1
                clear H1
                by_cases c17 : t218 = true
                · subst c17
                  have H1 : (if t221.isNone = true then (some false) else (if (t221.getD 0) = 1 then (if t219 = 0 then (some (t220 == 0)) else (some false)) else (some false))) = some r := by rw [if_pos rfl] at H; exact H
                  clear H
                  have H := H1
                  clear H1
                  rcases t221 with _ | q225
                  · have H1 : (some false) = some r := by rw [if_pos (show (none : Option Int).isNone = true by rfl)] at H; exact H
                    clear H
                    have H := H1
                    clear H1
                    try simp only [errW_none, errW_some]
                    exact absurd ((Option.some.inj H).trans HRT.out) (by decide)
                  · have H1 : (if q225 = 1 then (if t219 = 0 then (some (t220 == 0)) else (some false)) else (some false)) = some r := by rw [if_neg (show ¬ (some q225).isNone = true by simp)] at H; exact H
                    clear H
                    have H := H1
                    clear H1
                    try simp only [errW_none, errW_some]
                    by_cases c18 : q225 = 1
                    · rw [if_pos c18] at H
                      have c18b0 : (q225 == 1) = true := beq_iff_eq.mpr c18
                      have c18b1 : (q225 != 1) = false := bne_eq_false_iff_eq.mpr c18
                      clear c18
                      by_cases c19 : t219 = 0
                      · rw [if_pos c19] at H
                        have c19b0 : (t219 == 0) = true := beq_iff_eq.mpr c19
                        have c19b1 : (t219 != 0) = false := bne_eq_false_iff_eq.mpr c19
                        clear c19
                        obtain rfl := Option.some.inj H
                        go_wp2
                        go_ret
                        exact ⟨by first | rfl | (simp [errW_none, errW_some] <;> rfl) | (simp [*, errW_none, errW_some] <;> rfl), by repeat (first | (with_reducible first | exact HB.out | apply below_alloc | apply pw_below_drewN | apply below_drew1) | exact HB.out)⟩
                      · rw [if_neg c19] at H
                        have c19b0 : (t219 == 0) = false := beq_eq_false_iff_ne.mpr c19
                        have c19b1 : (t219 != 0) = true := bne_iff_ne.mpr c19
                        exact absurd ((Option.some.inj H).trans HRT.out) (by decide)
                    · rw [if_neg c18] at H
                      have c18b0 : (q225 == 1) = false := beq_eq_false_iff_ne.mpr c18
                      have c18b1 : (q225 != 1) = true := bne_iff_ne.mpr c18
                      exact absurd ((Option.some.inj H).trans HRT.out) (by decide)
                · replace c17 := Bool.eq_false_iff.mpr c17
                  subst c17
                  have H1 : (some false) = some r := by rw [if_neg (show ¬ (false = true) by decide)] at H; exact H
                  clear H
                  have H := H1
                  clear H1
                  exact absurd ((Option.some.inj H).trans HRT.out) (by decide)
            · rw [if_neg c12] at H
              have c12b0 : decide (x11_2 < (l1.length : Int)) = false := decide_eq_false c12
              clear c12
              by_cases c20 : x10_2 = true
              · subst c20
                have H1 : ((grommetref03_Eval.f k2 a0 l1).bind fun bt226 => (if t218 = true then (if t221.isNone = true then (if t219 = bt226.1 then (some (t220 == bt226.2)) else (some false)) else (some false)) else (some false))) = some r := by rw [if_pos rfl] at H; exact H
                clear H
                have H := H1
                clear H1
                replace H := Option.bind_eq_some_iff.mp H
                obtain ⟨⟨t226, t227⟩, A210, H⟩ := H
                replace H : (if t218 = true then (if t221.isNone = true then (if t219 = t226 then (some (t220 == t227)) else (some false)) else (some false)) else (some false)) = some r := H
                have A21 := Aside0.mk A210
                clear A210
                by_cases c22 : t218 = true
                · subst c22
                  have H1 : (if t221.isNone = true then (if t219 = t226 then (some (t220 == t227)) else (some false)) else (some false)) = some r := by rw [if_pos rfl] at H; exact H
                  clear H
                  have H := H1
                  clear H1
                  rcases t221 with _ | q228
                  · have H1 : (if t219 = t226 then (some (t220 == t227)) else (some false)) = some r := by rw [if_pos (show (none : Option Int).isNone = true by rfl)] at H; exact H
                    clear H
                    have H := H1
                    clear H1
                    try simp only [errW_none, errW_some]
                    by_cases c23 : t219 = t226
                    · rw [if_pos c23] at H
                      have c23b0 : (t219 == t226) = true := beq_iff_eq.mpr c23
                      have c23b1 : (t219 != t226) = false := bne_eq_false_iff_eq.mpr c23
                      clear c23
                      obtain rfl := Option.some.inj H
                      go_wp2_with (first | ((with_reducible refine gate_callee (f := 15) rfl ?_); refine goesL_ (some 74) rfl rfl Tryd.func15 (by kernel_rfl) rfl #[.int .i64 a0, .slice A1 l1.length c1] rfl (by (try simp only [List.map_toArray, List.map_cons, List.map_nil]); first | done | rfl | (simp only [List.length_drop, List.length_take]; rfl)) ?_; (with_reducible refine (grommetref03_Eval.calls k2 a0 _ _ l1 t226 t227 _ ?side1 ?side2 A21.out).mono ?_); (case side1 => repeat (first | exact (Kd.C_below HR1.out HB.out) | (with_reducible refine Kd.C_alloc ?_ _) | (with_reducible refine Kd.C_drewN ?_ _) | (with_reducible refine Kd.C_drew ?_))); (case side2 => exact HC1.out); rintro e w' ⟨rfl, ⟨nd, rfl⟩⟩; refine ⟨_, rfl, ?_⟩))
                      go_ret
                      exact ⟨by first | rfl | (simp [errW_none, errW_some] <;> rfl) | (simp [*, errW_none, errW_some] <;> rfl), by repeat (first | (with_reducible first | exact HB.out | apply below_alloc | apply pw_below_drewN | apply below_drew1) | exact HB.out)⟩
                    · rw [if_neg c23] at H
                      have c23b0 : (t219 == t226) = false := beq_eq_false_iff_ne.mpr c23
                      have c23b1 : (t219 != t226) = true := bne_iff_ne.mpr c23
                      exact absurd ((Option.some.inj H).trans HRT.out) (by decide)
                  · have H1 : (some false) = some r := by rw [if_neg (show ¬ (some q228).isNone = true by simp)] at H; exact H
                    clear H
                    have H := H1
                    clear H1
                    try simp only [errW_none, errW_some]
                    exact absurd ((Option.some.inj H).trans HRT.out) (by decide)
                · replace c22 := Bool.eq_false_iff.mpr c22
                  subst c22
                  have H1 : (some false) = some r := by rw [if_neg (show ¬ (false = true) by decide)] at H; exact H
                  clear H
                  have H := H1
                  clear H1
                  exact absurd ((Option.some.inj H).trans HRT.out) (by decide)
              · replace c20 := Bool.eq_false_iff.mpr c20
                subst c20
                have H1 : (if t218 = true then (if t221.isNone = true then (some false) else (if (t221.getD 0) = 1 then (if t219 = 0 then (some (t220 == 0)) else (some false)) else (some false))) else (some false)) = some r := by rw [if_neg (show ¬ (false = true) by decide)] at H; exact H
                clear H
                have H := H1
                clear H1
                by_cases c24 : t218 = true
                · subst c24
                  have H1 : (if t221.isNone = true then (some false) else (if (t221.getD 0) = 1 then (if t219 = 0 then (some (t220 == 0)) else (some false)) else (some false))) = some r := by rw [if_pos rfl] at H; exact H
                  clear H
                  have H := H1
                  clear H1
                  rcases t221 with _ | q229
                  · have H1 : (some false) = some r := by rw [if_pos (show (none : Option Int).isNone = true by rfl)] at H; exact H
                    clear H
                    have H := H1
                    clear H1
                    try simp only [errW_none, errW_some]
                    exact absurd ((Option.some.inj H).trans HRT.out) (by decide)
                  · have H1 : (if q229 = 1 then (if t219 = 0 then (some (t220 == 0)) else (some false)) else (some false)) = some r := by rw [if_neg (show ¬ (some q229).isNone = true by simp)] at H; exact H
                    clear H
                    have H := H1
                    clear H1
                    try simp only [errW_none, errW_some]
                    by_cases c25 : q229 = 1
                    · rw [if_pos c25] at H
                      have c25b0 : (q229 == 1) = true := beq_iff_eq.mpr c25
                      have c25b1 : (q229 != 1) = false := bne_eq_false_iff_eq.mpr c25
                      clear c25
                      by_cases c26 : t219 = 0
                      · rw [if_pos c26] at H
                        have c26b0 : (t219 == 0) = true := beq_iff_eq.mpr c26
                        have c26b1 : (t219 != 0) = false := bne_eq_false_iff_eq.mpr c26
                        clear c26
                        obtain rfl := Option.some.inj H
                        go_wp2
                        go_ret
                        exact ⟨by first | rfl | (simp [errW_none, errW_some] <;> rfl) | (simp [*, errW_none, errW_some] <;> rfl), by repeat (first | (with_reducible first | exact HB.out | apply below_alloc | apply pw_below_drewN | apply below_drew1) | exact HB.out)⟩
                      · rw [if_neg c26] at H
                        have c26b0 : (t219 == 0) = false := beq_eq_false_iff_ne.mpr c26
                        have c26b1 : (t219 != 0) = true := bne_iff_ne.mpr c26
                        exact absurd ((Option.some.inj H).trans HRT.out) (by decide)
                    · rw [if_neg c25] at H
                      have c25b0 : (q229 == 1) = false := beq_eq_false_iff_ne.mpr c25
                      have c25b1 : (q229 != 1) = true := bne_iff_ne.mpr c25
                      exact absurd ((Option.some.inj H).trans HRT.out) (by decide)
                · replace c24 := Bool.eq_false_iff.mpr c24
                  subst c24
                  have H1 : (some false) = some r := by rw [if_neg (show ¬ (false = true) by decide)] at H; exact H
                  clear H
                  have H := H1
                  clear H1
                  exact absurd ((Option.some.inj H).trans HRT.out) (by decide)

/-- THE ONE PURE STATEMENT of grommetlaw03_NumEvals: yours. -/
def grommetlaw03_NumEvals.Pure : Prop := ∀ (a0 : Int) (l1 : List Int), (Lit.int .i64 a0).wf = true → l1.length ≤ maxLen → l1.length * 8 ≤ 140737488351232 → (∀ x ∈ l1, (Lit.int .u64 x).wf = true) → ∃ k, grommetlaw03_NumEvals.f k a0 l1 = some true
theorem grommetlaw03_NumEvals.walk (P : grommetlaw03_NumEvals.Pure) (a0 : Int) (a1 : Option Addr) (len1 cap1 : Nat) (z1 : List Int) (w : World) (hG : GL w) (w0 : (Lit.int .i64 a0).wf = true) (w1 : (a1 = none ∧ len1 = 0 ∧ cap1 = 0 ∧ z1 = []) ∨ ∃ x, a1 = some x ∧ len1 ≤ cap1 ∧ cap1 ≤ maxLen ∧ z1.length = cap1 ∧ (∀ i, i < z1.length → w.cell? (x.add i) = some (.int .u64 (z1.getD i 0))) ∧ ∀ n ∈ z1, (Lit.int .u64 n).wf = true) (y1 : len1 * 8 ≤ 140737488351232) :
    Calls Tryd.prog 4 #[.int .i64 a0, .slice a1 len1 cap1] w fun e w' => e = .returned (.bool true) ∧ Below w.heap.size w w' := by
  obtain ⟨l1, rfl, hr1, hm1, hw1, hc1⟩ := ReadsInt.ofRowC w1
  obtain ⟨k, h⟩ := P a0 l1 w0 hm1 y1 hw1
  refine (grommetlaw03_NumEvals.calls k a0 _ _ l1 true w hG (Kd.C_of_reads (d := (0 : Int)) (h1 := fun _ => rfl) hr1) hc1 h rfl).mono ?_
  rintro e w' ⟨rfl, hd⟩
  exact ⟨rfl, hd⟩

end Go.Proofs.YtgplakhkofchiaaDoor.RNumEvals
