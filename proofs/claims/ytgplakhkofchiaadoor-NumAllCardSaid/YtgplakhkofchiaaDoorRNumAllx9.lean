-- Made by the program wip/patchprint.py (this session's own, over the kit's print)
import Derived.Test.YtgplakhkofchiaaDoorRNumAllx0
import Derived.Test.YtgplakhkofchiaaDoorRNumAllx3
import Derived.Test.YtgplakhkofchiaaDoorRNumAllx4
import Derived.Test.YtgplakhkofchiaaDoorRNumAllx5
import Derived.Test.YtgplakhkofchiaaDoorRNumAllx8
namespace Go.Proofs.YtgplakhkofchiaaDoor.RNumAll
open Go.RowKit Go.Proofs.YtgplakhkofchiaaDoor.Man Go.Proofs.YtgplakhkofchiaaDoorW.PrintWords Go.Proofs.YtgplakhkofchiaaDoorW.PrintLast Go.Proofs.YtgplakhkofchiaaDoorW.PrintMore
attribute [local go_sem] max2_int min2_int max_two min_two max_three min_three max_four min_four   -- for this text's walks alone
set_option linter.unusedVariables false
set_option linter.unusedSimpArgs false
set_option linter.unnecessarySimpa false

attribute [local simp] shl_zero
/-! ### grommetref03_Eval: function 15 -/
def grommetref03_Eval.j0 : Nat → Int → List Int → Int → Int → Bool → Option (Int × Int)
  | 0, _, _, _, _, _ => none
  | k + 1, x0, x1, x6, x7, x13 => if x13 = true then ((grommetref03_truth.f (x7 == 0)).bind fun t202 => (some (t202, 0))) else (if x0 = 167 then (some (Int.tmod x7 4294967296, 0)) else (if x0 = 172 then ((grommetref03_negative.f x7 32).bind fun t203 => (if t203 = true then (some (IntKind.u64.wrap (x7 + 18446744069414584320), 0)) else (some (x7, 0)))) else (if x0 = 173 then (some (x7, 0)) else (if x0 < 80 then (if 1 < (x1.length : Int) then ((grommetref03_compare.f k (wrap64 (x0 - 70)) x7 (rd x1 1) x6).bind fun t205 => ((grommetref03_truth.f t205).bind fun t206 => (some (t206, 0)))) else (none)) else (if x0 < 103 then (if 1 < (x1.length : Int) then ((grommetref03_compare.f k (wrap64 (x0 - 81)) x7 (rd x1 1) x6).bind fun t208 => ((grommetref03_truth.f t208).bind fun t209 => (some (t209, 0)))) else (none)) else (if x0 < 106 then ((grommetref03_count.f k (wrap64 (x0 - 103)) x7 x6).bind fun t210 => (some (t210, 0))) else (if x0 < 121 then (if 1 < (x1.length : Int) then ((grommetref03_two.f k (wrap64 (x0 - 106)) x7 (rd x1 1) x6).bind fun bt212 => (some (bt212.1, bt212.2))) else (none)) else (if x0 < 124 then ((grommetref03_count.f k (wrap64 (x0 - 121)) x7 x6).bind fun t214 => (some (t214, 0))) else (if 1 < (x1.length : Int) then ((grommetref03_two.f k (wrap64 (x0 - 124)) x7 (rd x1 1) x6).bind fun bt216 => (some (bt216.1, bt216.2))) else (none))))))))))
def grommetref03_Eval.f (k : Nat) (a0 : Int) (l1 : List Int) : Option (Int × Int) := (grommetref03_Bits.f a0).bind fun t200 => (if 0 < (l1.length : Int) then (if a0 = 69 then (grommetref03_Eval.j0 k a0 l1 t200 (rd l1 0) true) else (grommetref03_Eval.j0 k a0 l1 t200 (rd l1 0) (a0 == 80))) else (none))
theorem grommetref03_Eval.mono_l : ∀ k, (∀ y0 y1 y2 y3 y4, LeO (grommetref03_Eval.j0 k y0 y1 y2 y3 y4) (grommetref03_Eval.j0 (k + 1) y0 y1 y2 y3 y4))
  | 0 => fun _ _ _ _ _ r h => by simp [grommetref03_Eval.j0] at h
  | k + 1 => by
    have ih0 := grommetref03_Eval.mono_l k
    · intro y0 y1 y2 y3 y4
      unfold grommetref03_Eval.j0
      repeat' first
      | (with_reducible exact ih0 _ _ _ _ _)
      | (with_reducible exact grommetref03_compare.mono _ _ _ _ _)
      | (with_reducible exact grommetref03_count.mono _ _ _ _)
      | (with_reducible exact grommetref03_two.mono _ _ _ _ _)
      | (with_reducible exact LeO.refl _)
      | (with_reducible exact LeO.none _)
      | (with_reducible refine LeO.ite ?_ ?_)
      | (with_reducible refine LeO.bind ?_ (fun _ => ?_))
      | exact ih0 _ _ _ _ _
      | exact grommetref03_compare.mono _ _ _ _ _
      | exact grommetref03_count.mono _ _ _ _
      | exact grommetref03_two.mono _ _ _ _ _
      | exact LeO.none _
      | refine LeO.ite ?_ ?_
      | refine LeO.bind ?_ (fun _ => ?_)
theorem grommetref03_Eval.mono : ∀ a0 a1 k, LeO (grommetref03_Eval.f k a0 a1) (grommetref03_Eval.f (k + 1) a0 a1) := by
  intro a0 a1 k
  have ih0 := grommetref03_Eval.mono_l k
  unfold grommetref03_Eval.f
  repeat' first
      | (with_reducible exact ih0 _ _ _ _ _)
      | (with_reducible exact grommetref03_compare.mono _ _ _ _ _)
      | (with_reducible exact grommetref03_count.mono _ _ _ _)
      | (with_reducible exact grommetref03_two.mono _ _ _ _ _)
      | (with_reducible exact LeO.refl _)
      | (with_reducible exact LeO.none _)
      | (with_reducible refine LeO.ite ?_ ?_)
      | (with_reducible refine LeO.bind ?_ (fun _ => ?_))
      | exact ih0 _ _ _ _ _
      | exact grommetref03_compare.mono _ _ _ _ _
      | exact grommetref03_count.mono _ _ _ _
      | exact grommetref03_two.mono _ _ _ _ _
      | exact LeO.none _
      | refine LeO.ite ?_ ?_
      | refine LeO.bind ?_ (fun _ => ?_)
set_option maxHeartbeats 8000000 in
set_option maxRecDepth 100000 in
theorem grommetref03_Eval.calls (k : Nat) (a0 : Int) (A1 : Option Addr) (c1 : Nat) (l1 : List Int) (r1 : Int) (r2 : Int) (w : World) (hr1 : Kd.C (Kd.int .u64) w A1 l1.length l1) (hc1 : l1.length ≤ c1) (h : grommetref03_Eval.f k a0 l1 = some (r1, r2)) :
    Calls Tryd.prog 15 #[.int .i64 a0, .slice A1 l1.length c1] w fun e w' => e = .returned (.tuple #[.int .u64 r1, .int .i64 r2]) ∧ Drawn0 w w' := by
  have HR1 := Aside0.mk hr1
  have HC1 := Aside0.mk hc1
  clear hr1 hc1
  have H : ((grommetref03_Bits.f a0).bind fun t200 => (if 0 < (l1.length : Int) then (if a0 = 69 then (grommetref03_Eval.j0 k a0 l1 t200 (rd l1 0) true) else (grommetref03_Eval.j0 k a0 l1 t200 (rd l1 0) (a0 == 80))) else (none))) = some (r1, r2) := h
  clear h
  replace H := Option.bind_eq_some_iff.mp H
  obtain ⟨t200, A30, H⟩ := H
  replace H : (if 0 < (l1.length : Int) then (if a0 = 69 then (grommetref03_Eval.j0 k a0 l1 t200 (rd l1 0) true) else (grommetref03_Eval.j0 k a0 l1 t200 (rd l1 0) (a0 == 80))) else (none)) = some (r1, r2) := H
  have A3 := Aside0.mk A30
  clear A30
  by_cases c4 : 0 < (l1.length : Int)
  · rw [if_pos c4] at H
    have c4b0 : decide (0 < (l1.length : Int)) = true := decide_eq_true c4
    have c4b1 : decide (0 < l1.length) = true := decide_eq_true (by omega)
    clear c4
    have HC5 := Aside0.mk H
    clear H
    go_enter Tryd.func15, Tryd.ntmps15
    go_upto_region 3 with (first | ((with_reducible refine gate_callee (f := 14) rfl ?_); refine goesL_ (some 9) rfl rfl Tryd.func14 (by kernel_rfl) rfl #[.int .i64 a0] rfl (by (try simp only [List.map_toArray, List.map_cons, List.map_nil]); first | done | rfl | (simp only [List.length_drop, List.length_take]; rfl)) ?_; (with_reducible refine (grommetref03_Bits.calls a0 t200 _ A3.out).mono ?_); rintro e w' ⟨rfl, ⟨nd, rfl⟩⟩; refine ⟨_, rfl, ?_⟩; have p201 : 0 ≤ (0 : Int) := (by omega); have q201 : 0 < (l1.length : Int) := of_decide_eq_true (by first | (with_reducible assumption) | assumption); obtain ⟨ad201, e201, hx201_0⟩ := Kd.at_int HR1.out 0 p201 q201; cases e201; have qi201 : (0 < l1.length) = True := eq_true (by omega); (try rw [show ((0 : Int)).toNat = 0 from rfl] at hx201_0); (try rw [Addr.add_zero'] at hx201_0); replace p201 := eq_true p201; replace q201 := eq_true q201))
    (try simp only [Act.put, List.setIfInBounds_toArray, List.set_cons_zero, List.set_cons_succ])
    go_cut [13] (fun v13 wc => ∃ (kq : Nat) (x13_4 : Bool), v13 = .bool x13_4 ∧ Aside0 (grommetref03_Eval.j0 kq a0 l1 t200 (rd l1 0) x13_4 = some (r1, r2)) ∧ Aside0 (kq ≤ k) ∧ Drawn0 w wc)
    case first =>
      have H := HC5.out
      clear HC5
      by_cases c6 : a0 = 69
      · rw [if_pos c6] at H
        have c6b0 : (a0 == 69) = true := beq_iff_eq.mpr c6
        have c6b1 : (a0 != 69) = false := bne_eq_false_iff_eq.mpr c6
        clear c6
        (first | rw [c6b0] | (simp only [i64_w, i32_w]; rw [c6b0]) | skip)
        have H' := Aside0.mk H
        clear H
        go_wp2
        go_meet
        case rel => exact ⟨_, (true), (by first | rfl | (simp; done) | (simp [*]; done)), H', ⟨by first | omega | exact Nat.le_refl _⟩, by repeat (first | exact Drawn0.refl _ | apply Drawn0.step)⟩
      · rw [if_neg c6] at H
        have c6b0 : (a0 == 69) = false := beq_eq_false_iff_ne.mpr c6
        have c6b1 : (a0 != 69) = true := bne_iff_ne.mpr c6
        (first | rw [c6b0] | (simp only [i64_w, i32_w]; rw [c6b0]) | skip)
        have H' := Aside0.mk H
        clear H
        go_wp2
        go_meet
        case rel => exact ⟨_, ((a0 == 80)), (by first | rfl | (simp; done) | (simp [*]; done)), H', ⟨by first | omega | exact Nat.le_refl _⟩, by repeat (first | exact Drawn0.refl _ | apply Drawn0.step)⟩
    case rest =>
      clear HC5
      try clear c1
      try clear p2
      try clear q2
      try clear hx2
      try clear qi2
      try clear c4
      try clear c4b0
      try clear c4b1
      try clear c6
      try clear c6b0
      try clear c6b1
      try clear hx201_0
      try clear p201
      try clear q201
      obtain ⟨kq, x13_4, rfl, HA, HJ4, ⟨mc4, rfl⟩⟩ := hcut
      cases kq with
      | zero => exact absurd HA.out (by simp [grommetref03_Eval.j0])
      | succ kj4 =>
        have H := HA.out
        clear HA
        simp only [grommetref03_Eval.j0] at H
        by_cases c7 : x13_4 = true
        · subst c7
          have H1 : ((grommetref03_truth.f ((rd l1 0) == 0)).bind fun t202 => (some (t202, 0))) = some (r1, r2) := by rw [if_pos rfl] at H; exact H
          clear H
          have H := H1
          clear H1
          replace H := Option.bind_eq_some_iff.mp H
          obtain ⟨t202, A80, H⟩ := H
          replace H : (some (t202, 0)) = some (r1, r2) := H
          have A8 := Aside0.mk A80
          clear A80
          simp only [Option.some.injEq, Prod.mk.injEq] at H
          obtain ⟨rfl, rfl⟩ := H
          go_wp2_with (first | ((with_reducible refine gate_callee (f := 23) rfl ?_); refine goesL_ (some 22) rfl rfl Tryd.func23 (by kernel_rfl) rfl #[.bool ((rd l1 0) == 0)] rfl (by (try simp only [List.map_toArray, List.map_cons, List.map_nil]); first | done | rfl | (simp only [List.length_drop, List.length_take]; rfl)) ?_; (with_reducible refine (grommetref03_truth.calls ((rd l1 0) == 0) t202 _ A8.out).mono ?_); rintro e w' ⟨rfl, ⟨nd, rfl⟩⟩; refine ⟨_, rfl, ?_⟩))
          go_ret2
          exact ⟨by first | rfl | (simp; done) | (simp [*]; done), by repeat (first | exact Drawn0.refl _ | apply Drawn0.step)⟩
        · replace c7 := Bool.eq_false_iff.mpr c7
          subst c7
          have H1 : (if a0 = 167 then (some (Int.tmod (rd l1 0) 4294967296, 0)) else (if a0 = 172 then ((grommetref03_negative.f (rd l1 0) 32).bind fun t203 => (if t203 = true then (some (IntKind.u64.wrap ((rd l1 0) + 18446744069414584320), 0)) else (some ((rd l1 0), 0)))) else (if a0 = 173 then (some ((rd l1 0), 0)) else (if a0 < 80 then (if 1 < (l1.length : Int) then ((grommetref03_compare.f kj4 (wrap64 (a0 - 70)) (rd l1 0) (rd l1 1) t200).bind fun t205 => ((grommetref03_truth.f t205).bind fun t206 => (some (t206, 0)))) else (none)) else (if a0 < 103 then (if 1 < (l1.length : Int) then ((grommetref03_compare.f kj4 (wrap64 (a0 - 81)) (rd l1 0) (rd l1 1) t200).bind fun t208 => ((grommetref03_truth.f t208).bind fun t209 => (some (t209, 0)))) else (none)) else (if a0 < 106 then ((grommetref03_count.f kj4 (wrap64 (a0 - 103)) (rd l1 0) t200).bind fun t210 => (some (t210, 0))) else (if a0 < 121 then (if 1 < (l1.length : Int) then ((grommetref03_two.f kj4 (wrap64 (a0 - 106)) (rd l1 0) (rd l1 1) t200).bind fun bt212 => (some (bt212.1, bt212.2))) else (none)) else (if a0 < 124 then ((grommetref03_count.f kj4 (wrap64 (a0 - 121)) (rd l1 0) t200).bind fun t214 => (some (t214, 0))) else (if 1 < (l1.length : Int) then ((grommetref03_two.f kj4 (wrap64 (a0 - 124)) (rd l1 0) (rd l1 1) t200).bind fun bt216 => (some (bt216.1, bt216.2))) else (none)))))))))) = some (r1, r2) := by rw [if_neg (show ¬ (false = true) by decide)] at H; exact H
          clear H
          have H := H1
          clear H1
          by_cases c9 : a0 = 167
          · rw [if_pos c9] at H
            have c9b0 : (a0 == 167) = true := beq_iff_eq.mpr c9
            have c9b1 : (a0 != 167) = false := bne_eq_false_iff_eq.mpr c9
            clear c9
            simp only [Option.some.injEq, Prod.mk.injEq] at H
            obtain ⟨rfl, rfl⟩ := H
            go_wp2
            go_ret2
            exact ⟨by first | rfl | (simp; done) | (simp [*]; done), by repeat (first | exact Drawn0.refl _ | apply Drawn0.step)⟩
          · rw [if_neg c9] at H
            have c9b0 : (a0 == 167) = false := beq_eq_false_iff_ne.mpr c9
            have c9b1 : (a0 != 167) = true := bne_iff_ne.mpr c9
            by_cases c10 : a0 = 172
            · rw [if_pos c10] at H
              have c10b0 : (a0 == 172) = true := beq_iff_eq.mpr c10
              have c10b1 : (a0 != 172) = false := bne_eq_false_iff_eq.mpr c10
              clear c10
              replace H := Option.bind_eq_some_iff.mp H
              obtain ⟨t203, A110, H⟩ := H
              replace H : (if t203 = true then (some (IntKind.u64.wrap ((rd l1 0) + 18446744069414584320), 0)) else (some ((rd l1 0), 0))) = some (r1, r2) := H
              have A11 := Aside0.mk A110
              clear A110
              by_cases c12 : t203 = true
              · subst c12
                have H1 : (some (IntKind.u64.wrap ((rd l1 0) + 18446744069414584320), 0)) = some (r1, r2) := by rw [if_pos rfl] at H; exact H
                clear H
                have H := H1
                clear H1
                simp only [Option.some.injEq, Prod.mk.injEq] at H
                obtain ⟨rfl, rfl⟩ := H
                go_wp2_with (first | ((with_reducible refine gate_callee (f := 24) rfl ?_); refine goesL_ (some 32) rfl rfl Tryd.func24 (by kernel_rfl) rfl #[.int .u64 (rd l1 0), .int .i64 32] rfl (by (try simp only [List.map_toArray, List.map_cons, List.map_nil]); first | done | rfl | (simp only [List.length_drop, List.length_take]; rfl)) ?_; (with_reducible refine (grommetref03_negative.calls (rd l1 0) 32 true _ A11.out).mono ?_); rintro e w' ⟨rfl, ⟨nd, rfl⟩⟩; refine ⟨_, rfl, ?_⟩))
                go_ret2
                exact ⟨by first | rfl | (simp; done) | (simp [*]; done), by repeat (first | exact Drawn0.refl _ | apply Drawn0.step)⟩
              · replace c12 := Bool.eq_false_iff.mpr c12
                subst c12
                have H1 : (some ((rd l1 0), 0)) = some (r1, r2) := by rw [if_neg (show ¬ (false = true) by decide)] at H; exact H
                clear H
                have H := H1
                clear H1
                simp only [Option.some.injEq, Prod.mk.injEq] at H
                obtain ⟨rfl, rfl⟩ := H
                go_wp2_with (first | ((with_reducible refine gate_callee (f := 24) rfl ?_); refine goesL_ (some 32) rfl rfl Tryd.func24 (by kernel_rfl) rfl #[.int .u64 (rd l1 0), .int .i64 32] rfl (by (try simp only [List.map_toArray, List.map_cons, List.map_nil]); first | done | rfl | (simp only [List.length_drop, List.length_take]; rfl)) ?_; (with_reducible refine (grommetref03_negative.calls (rd l1 0) 32 false _ A11.out).mono ?_); rintro e w' ⟨rfl, ⟨nd, rfl⟩⟩; refine ⟨_, rfl, ?_⟩))
                go_ret2
                exact ⟨by first | rfl | (simp; done) | (simp [*]; done), by repeat (first | exact Drawn0.refl _ | apply Drawn0.step)⟩
            · rw [if_neg c10] at H
              have c10b0 : (a0 == 172) = false := beq_eq_false_iff_ne.mpr c10
              have c10b1 : (a0 != 172) = true := bne_iff_ne.mpr c10
              by_cases c13 : a0 = 173
              · rw [if_pos c13] at H
                have c13b0 : (a0 == 173) = true := beq_iff_eq.mpr c13
                have c13b1 : (a0 != 173) = false := bne_eq_false_iff_eq.mpr c13
                clear c13
                simp only [Option.some.injEq, Prod.mk.injEq] at H
                obtain ⟨rfl, rfl⟩ := H
                go_wp2
                go_ret2
                exact ⟨by first | rfl | (simp; done) | (simp [*]; done), by repeat (first | exact Drawn0.refl _ | apply Drawn0.step)⟩
              · rw [if_neg c13] at H
                have c13b0 : (a0 == 173) = false := beq_eq_false_iff_ne.mpr c13
                have c13b1 : (a0 != 173) = true := bne_iff_ne.mpr c13
                by_cases c14 : a0 < 80
                · rw [if_pos c14] at H
                  have c14b0 : decide (a0 < 80) = true := decide_eq_true c14
                  clear c14
                  by_cases c15 : 1 < (l1.length : Int)
                  · rw [if_pos c15] at H
                    have c15b0 : decide (1 < (l1.length : Int)) = true := decide_eq_true c15
                    have c15b1 : decide (1 < l1.length) = true := decide_eq_true (by omega)
                    clear c15
                    replace H := Option.bind_eq_some_iff.mp H
                    obtain ⟨t205, A160, H⟩ := H
                    replace H : ((grommetref03_truth.f t205).bind fun t206 => (some (t206, 0))) = some (r1, r2) := H
                    have A16 := Aside0.mk A160
                    clear A160
                    replace H := Option.bind_eq_some_iff.mp H
                    obtain ⟨t206, A170, H⟩ := H
                    replace H : (some (t206, 0)) = some (r1, r2) := H
                    have A17 := Aside0.mk A170
                    clear A170
                    simp only [Option.some.injEq, Prod.mk.injEq] at H
                    obtain ⟨rfl, rfl⟩ := H
                    have p204 : 0 ≤ (1 : Int) := (by omega)
                    have q204 : 1 < (l1.length : Int) := of_decide_eq_true (by first | (with_reducible assumption) | assumption)
                    obtain ⟨ad204, e204, hx204_0⟩ := Kd.at_int HR1.out 1 p204 q204
                    obtain rfl : ad201 = ad204 := (by injection e204)
                    (try simp only [show (1 : Int).toNat = 1 from rfl, Nat.reduceMul, Nat.reduceEqDiff, Go.Addr.add, ↓reduceIte] at hx204_0)
                    have qi204 : (1 < l1.length) = True := eq_true (by omega)
                    (try rw [show ((1 : Int)).toNat = 1 from rfl] at hx204_0)
                    replace p204 := eq_true p204
                    replace q204 := eq_true q204
                    go_wp2_with (first | ((with_reducible refine gate_callee (f := 25) rfl ?_); refine goesL_ (some 50) rfl rfl Tryd.func25 (by kernel_rfl) rfl #[.int .i64 (wrap64 (a0 - 70)), .int .u64 (rd l1 0), .int .u64 (rd l1 1), .int .i64 t200] rfl (by (try simp only [List.map_toArray, List.map_cons, List.map_nil]); first | done | rfl | (simp only [List.length_drop, List.length_take]; rfl)) ?_; (with_reducible refine (grommetref03_compare.calls kj4 (wrap64 (a0 - 70)) (rd l1 0) (rd l1 1) t200 t205 _ A16.out).mono ?_); rintro e w' ⟨rfl, ⟨nd, rfl⟩⟩; refine ⟨_, rfl, ?_⟩) | ((with_reducible refine gate_callee (f := 23) rfl ?_); refine goesL_ (some 51) rfl rfl Tryd.func23 (by kernel_rfl) rfl #[.bool t205] rfl (by (try simp only [List.map_toArray, List.map_cons, List.map_nil]); first | done | rfl | (simp only [List.length_drop, List.length_take]; rfl)) ?_; (with_reducible refine (grommetref03_truth.calls t205 t206 _ A17.out).mono ?_); rintro e w' ⟨rfl, ⟨nd, rfl⟩⟩; refine ⟨_, rfl, ?_⟩))
                    go_ret2
                    exact ⟨by first | rfl | (simp; done) | (simp [*]; done), by repeat (first | exact Drawn0.refl _ | apply Drawn0.step)⟩
                  · rw [if_neg c15] at H
                    exact absurd H (by simp)
                · rw [if_neg c14] at H
                  have c14b0 : decide (a0 < 80) = false := decide_eq_false c14
                  clear c14
                  by_cases c18 : a0 < 103
                  · rw [if_pos c18] at H
                    have c18b0 : decide (a0 < 103) = true := decide_eq_true c18
                    clear c18
                    by_cases c19 : 1 < (l1.length : Int)
                    · rw [if_pos c19] at H
                      have c19b0 : decide (1 < (l1.length : Int)) = true := decide_eq_true c19
                      have c19b1 : decide (1 < l1.length) = true := decide_eq_true (by omega)
                      clear c19
                      replace H := Option.bind_eq_some_iff.mp H
                      obtain ⟨t208, A200, H⟩ := H
                      replace H : ((grommetref03_truth.f t208).bind fun t209 => (some (t209, 0))) = some (r1, r2) := H
                      have A20 := Aside0.mk A200
                      clear A200
                      replace H := Option.bind_eq_some_iff.mp H
                      obtain ⟨t209, A210, H⟩ := H
                      replace H : (some (t209, 0)) = some (r1, r2) := H
                      have A21 := Aside0.mk A210
                      clear A210
                      simp only [Option.some.injEq, Prod.mk.injEq] at H
                      obtain ⟨rfl, rfl⟩ := H
                      have p207 : 0 ≤ (1 : Int) := (by omega)
                      have q207 : 1 < (l1.length : Int) := of_decide_eq_true (by first | (with_reducible assumption) | assumption)
                      obtain ⟨ad207, e207, hx207_0⟩ := Kd.at_int HR1.out 1 p207 q207
                      obtain rfl : ad201 = ad207 := (by injection e207)
                      (try simp only [show (1 : Int).toNat = 1 from rfl, Nat.reduceMul, Nat.reduceEqDiff, Go.Addr.add, ↓reduceIte] at hx207_0)
                      have qi207 : (1 < l1.length) = True := eq_true (by omega)
                      (try rw [show ((1 : Int)).toNat = 1 from rfl] at hx207_0)
                      replace p207 := eq_true p207
                      replace q207 := eq_true q207
                      go_wp2_with (first | ((with_reducible refine gate_callee (f := 25) rfl ?_); refine goesL_ (some 62) rfl rfl Tryd.func25 (by kernel_rfl) rfl #[.int .i64 (wrap64 (a0 - 81)), .int .u64 (rd l1 0), .int .u64 (rd l1 1), .int .i64 t200] rfl (by (try simp only [List.map_toArray, List.map_cons, List.map_nil]); first | done | rfl | (simp only [List.length_drop, List.length_take]; rfl)) ?_; (with_reducible refine (grommetref03_compare.calls kj4 (wrap64 (a0 - 81)) (rd l1 0) (rd l1 1) t200 t208 _ A20.out).mono ?_); rintro e w' ⟨rfl, ⟨nd, rfl⟩⟩; refine ⟨_, rfl, ?_⟩) | ((with_reducible refine gate_callee (f := 23) rfl ?_); refine goesL_ (some 63) rfl rfl Tryd.func23 (by kernel_rfl) rfl #[.bool t208] rfl (by (try simp only [List.map_toArray, List.map_cons, List.map_nil]); first | done | rfl | (simp only [List.length_drop, List.length_take]; rfl)) ?_; (with_reducible refine (grommetref03_truth.calls t208 t209 _ A21.out).mono ?_); rintro e w' ⟨rfl, ⟨nd, rfl⟩⟩; refine ⟨_, rfl, ?_⟩))
                      go_ret2
                      exact ⟨by first | rfl | (simp; done) | (simp [*]; done), by repeat (first | exact Drawn0.refl _ | apply Drawn0.step)⟩
                    · rw [if_neg c19] at H
                      exact absurd H (by simp)
                  · rw [if_neg c18] at H
                    have c18b0 : decide (a0 < 103) = false := decide_eq_false c18
                    clear c18
                    by_cases c22 : a0 < 106
                    · rw [if_pos c22] at H
                      have c22b0 : decide (a0 < 106) = true := decide_eq_true c22
                      clear c22
                      replace H := Option.bind_eq_some_iff.mp H
                      obtain ⟨t210, A230, H⟩ := H
                      replace H : (some (t210, 0)) = some (r1, r2) := H
                      have A23 := Aside0.mk A230
                      clear A230
                      simp only [Option.some.injEq, Prod.mk.injEq] at H
                      obtain ⟨rfl, rfl⟩ := H
                      go_wp2_with (first | ((with_reducible refine gate_callee (f := 26) rfl ?_); refine goesL_ (some 71) rfl rfl Tryd.func26 (by kernel_rfl) rfl #[.int .i64 (wrap64 (a0 - 103)), .int .u64 (rd l1 0), .int .i64 t200] rfl (by (try simp only [List.map_toArray, List.map_cons, List.map_nil]); first | done | rfl | (simp only [List.length_drop, List.length_take]; rfl)) ?_; (with_reducible refine (grommetref03_count.calls kj4 (wrap64 (a0 - 103)) (rd l1 0) t200 t210 _ A23.out).mono ?_); rintro e w' ⟨rfl, ⟨nd, rfl⟩⟩; refine ⟨_, rfl, ?_⟩))
                      go_ret2
                      exact ⟨by first | rfl | (simp; done) | (simp [*]; done), by repeat (first | exact Drawn0.refl _ | apply Drawn0.step)⟩
                    · rw [if_neg c22] at H
                      have c22b0 : decide (a0 < 106) = false := decide_eq_false c22
                      clear c22
                      by_cases c24 : a0 < 121
                      · rw [if_pos c24] at H
                        have c24b0 : decide (a0 < 121) = true := decide_eq_true c24
                        clear c24
                        by_cases c25 : 1 < (l1.length : Int)
                        · rw [if_pos c25] at H
                          have c25b0 : decide (1 < (l1.length : Int)) = true := decide_eq_true c25
                          have c25b1 : decide (1 < l1.length) = true := decide_eq_true (by omega)
                          clear c25
                          replace H := Option.bind_eq_some_iff.mp H
                          obtain ⟨⟨t212, t213⟩, A260, H⟩ := H
                          replace H : (some (t212, t213)) = some (r1, r2) := H
                          have A26 := Aside0.mk A260
                          clear A260
                          simp only [Option.some.injEq, Prod.mk.injEq] at H
                          obtain ⟨rfl, rfl⟩ := H
                          have p211 : 0 ≤ (1 : Int) := (by omega)
                          have q211 : 1 < (l1.length : Int) := of_decide_eq_true (by first | (with_reducible assumption) | assumption)
                          obtain ⟨ad211, e211, hx211_0⟩ := Kd.at_int HR1.out 1 p211 q211
                          obtain rfl : ad201 = ad211 := (by injection e211)
                          (try simp only [show (1 : Int).toNat = 1 from rfl, Nat.reduceMul, Nat.reduceEqDiff, Go.Addr.add, ↓reduceIte] at hx211_0)
                          have qi211 : (1 < l1.length) = True := eq_true (by omega)
                          (try rw [show ((1 : Int)).toNat = 1 from rfl] at hx211_0)
                          replace p211 := eq_true p211
                          replace q211 := eq_true q211
                          go_wp2_with (first | ((with_reducible refine gate_callee (f := 27) rfl ?_); refine goesL_ (some 82) rfl rfl Tryd.func27 (by kernel_rfl) rfl #[.int .i64 (wrap64 (a0 - 106)), .int .u64 (rd l1 0), .int .u64 (rd l1 1), .int .i64 t200] rfl (by (try simp only [List.map_toArray, List.map_cons, List.map_nil]); first | done | rfl | (simp only [List.length_drop, List.length_take]; rfl)) ?_; (with_reducible refine (grommetref03_two.calls kj4 (wrap64 (a0 - 106)) (rd l1 0) (rd l1 1) t200 t212 t213 _ A26.out).mono ?_); rintro e w' ⟨rfl, ⟨nd, rfl⟩⟩; refine ⟨_, rfl, ?_⟩))
                          go_ret2
                          exact ⟨by first | rfl | (simp; done) | (simp [*]; done), by repeat (first | exact Drawn0.refl _ | apply Drawn0.step)⟩
                        · rw [if_neg c25] at H
                          exact absurd H (by simp)
                      · rw [if_neg c24] at H
                        have c24b0 : decide (a0 < 121) = false := decide_eq_false c24
                        clear c24
                        by_cases c27 : a0 < 124
                        · rw [if_pos c27] at H
                          have c27b0 : decide (a0 < 124) = true := decide_eq_true c27
                          clear c27
                          replace H := Option.bind_eq_some_iff.mp H
                          obtain ⟨t214, A280, H⟩ := H
                          replace H : (some (t214, 0)) = some (r1, r2) := H
                          have A28 := Aside0.mk A280
                          clear A280
                          simp only [Option.some.injEq, Prod.mk.injEq] at H
                          obtain ⟨rfl, rfl⟩ := H
                          go_wp2_with (first | ((with_reducible refine gate_callee (f := 26) rfl ?_); refine goesL_ (some 92) rfl rfl Tryd.func26 (by kernel_rfl) rfl #[.int .i64 (wrap64 (a0 - 121)), .int .u64 (rd l1 0), .int .i64 t200] rfl (by (try simp only [List.map_toArray, List.map_cons, List.map_nil]); first | done | rfl | (simp only [List.length_drop, List.length_take]; rfl)) ?_; (with_reducible refine (grommetref03_count.calls kj4 (wrap64 (a0 - 121)) (rd l1 0) t200 t214 _ A28.out).mono ?_); rintro e w' ⟨rfl, ⟨nd, rfl⟩⟩; refine ⟨_, rfl, ?_⟩))
                          go_ret2
                          exact ⟨by first | rfl | (simp; done) | (simp [*]; done), by repeat (first | exact Drawn0.refl _ | apply Drawn0.step)⟩
                        · rw [if_neg c27] at H
                          have c27b0 : decide (a0 < 124) = false := decide_eq_false c27
                          clear c27
                          by_cases c29 : 1 < (l1.length : Int)
                          · rw [if_pos c29] at H
                            have c29b0 : decide (1 < (l1.length : Int)) = true := decide_eq_true c29
                            have c29b1 : decide (1 < l1.length) = true := decide_eq_true (by omega)
                            clear c29
                            replace H := Option.bind_eq_some_iff.mp H
                            obtain ⟨⟨t216, t217⟩, A300, H⟩ := H
                            replace H : (some (t216, t217)) = some (r1, r2) := H
                            have A30 := Aside0.mk A300
                            clear A300
                            simp only [Option.some.injEq, Prod.mk.injEq] at H
                            obtain ⟨rfl, rfl⟩ := H
                            have p215 : 0 ≤ (1 : Int) := (by omega)
                            have q215 : 1 < (l1.length : Int) := of_decide_eq_true (by first | (with_reducible assumption) | assumption)
                            obtain ⟨ad215, e215, hx215_0⟩ := Kd.at_int HR1.out 1 p215 q215
                            obtain rfl : ad201 = ad215 := (by injection e215)
                            (try simp only [show (1 : Int).toNat = 1 from rfl, Nat.reduceMul, Nat.reduceEqDiff, Go.Addr.add, ↓reduceIte] at hx215_0)
                            have qi215 : (1 < l1.length) = True := eq_true (by omega)
                            (try rw [show ((1 : Int)).toNat = 1 from rfl] at hx215_0)
                            replace p215 := eq_true p215
                            replace q215 := eq_true q215
                            go_wp2_with (first | ((with_reducible refine gate_callee (f := 27) rfl ?_); refine goesL_ (some 100) rfl rfl Tryd.func27 (by kernel_rfl) rfl #[.int .i64 (wrap64 (a0 - 124)), .int .u64 (rd l1 0), .int .u64 (rd l1 1), .int .i64 t200] rfl (by (try simp only [List.map_toArray, List.map_cons, List.map_nil]); first | done | rfl | (simp only [List.length_drop, List.length_take]; rfl)) ?_; (with_reducible refine (grommetref03_two.calls kj4 (wrap64 (a0 - 124)) (rd l1 0) (rd l1 1) t200 t216 t217 _ A30.out).mono ?_); rintro e w' ⟨rfl, ⟨nd, rfl⟩⟩; refine ⟨_, rfl, ?_⟩))
                            go_ret2
                            exact ⟨by first | rfl | (simp; done) | (simp [*]; done), by repeat (first | exact Drawn0.refl _ | apply Drawn0.step)⟩
                          · rw [if_neg c29] at H
                            exact absurd H (by simp)
  · rw [if_neg c4] at H
    exact absurd H (by simp)

/-! ### grommetlaw03_NumAll: function 5 -/
mutual
def grommetlaw03_NumAll.l0 : Nat → Int → Int → Bool → Int → Option (Bool)
  | 0, _, _, _, _ => none
  | k + 1, x0, x1, x5, x6 => if x6 ≤ 173 then ((grommetref03_Args.f k x6).bind fun t219 => (if t219 < 0 then (grommetlaw03_NumAll.l0 k x0 x1 x5 (wrap64 (x6 + 1))) else ((grommetref03_Bits.f x6).bind fun t220 => (if t220 = 32 then (grommetlaw03_NumAll.j1 k x0 x1 x5 x6 t219 (Int.tmod x0 4294967296) (Int.tmod x1 4294967296)) else (grommetlaw03_NumAll.j1 k x0 x1 x5 x6 t219 x0 x1))))) else (some x5)
def grommetlaw03_NumAll.j1 : Nat → Int → Int → Bool → Int → Int → Int → Int → Option (Bool)
  | 0, _, _, _, _, _, _, _ => none
  | k + 1, x0, x1, x5, x6, x7, x8, x9 => (some (([x8, x9] : List Int) : List Int)).bind fun y221 => (if 0 ≤ x7 then (if x7 ≤ (y221.length : Int) then ((num_Eval.f k x6 (y221.take (x7 : Int).toNat)).bind fun bt228 => ((grommetref03_Eval.f k x6 (y221.take (x7 : Int).toNat)).bind fun bt235 => (if bt228.2.2.isNone = true then (if bt228.1 = bt235.1 then (if bt228.2.1 = bt235.2 then (grommetlaw03_NumAll.l0 k x0 x1 x5 (wrap64 (x6 + 1))) else (some false)) else (some false)) else (some false)))) else (none)) else (none))
end
def grommetlaw03_NumAll.f (k : Nat) (a0 : Int) (a1 : Int) : Option (Bool) := (grommetlaw03_up.f k).bind fun t218 => (grommetlaw03_NumAll.l0 k a0 a1 t218 69)
theorem grommetlaw03_NumAll.mono_l : ∀ k, (∀ y0 y1 y2 y3, LeO (grommetlaw03_NumAll.l0 k y0 y1 y2 y3) (grommetlaw03_NumAll.l0 (k + 1) y0 y1 y2 y3)) ∧ (∀ y0 y1 y2 y3 y4 y5 y6, LeO (grommetlaw03_NumAll.j1 k y0 y1 y2 y3 y4 y5 y6) (grommetlaw03_NumAll.j1 (k + 1) y0 y1 y2 y3 y4 y5 y6))
  | 0 => ⟨fun _ _ _ _ r h => by simp [grommetlaw03_NumAll.l0] at h, fun _ _ _ _ _ _ _ r h => by simp [grommetlaw03_NumAll.j1] at h⟩
  | k + 1 => by
    obtain ⟨ih0, ih1⟩ := grommetlaw03_NumAll.mono_l k
    refine ⟨?_, ?_⟩
    · intro y0 y1 y2 y3
      unfold grommetlaw03_NumAll.l0
      repeat' first
      | (with_reducible exact ih0 _ _ _ _)
      | (with_reducible exact ih1 _ _ _ _ _ _ _)
      | (with_reducible exact grommetlaw03_up.mono _)
      | (with_reducible exact grommetref03_Args.mono _ _)
      | (with_reducible exact grommetref03_Eval.mono _ _ _)
      | (with_reducible exact num_Eval.mono _ _ _)
      | (with_reducible exact LeO.refl _)
      | (with_reducible exact LeO.none _)
      | (with_reducible refine LeO.ite ?_ ?_)
      | (with_reducible refine LeO.bind ?_ (fun _ => ?_))
      | exact ih0 _ _ _ _
      | exact ih1 _ _ _ _ _ _ _
      | exact grommetlaw03_up.mono _
      | exact grommetref03_Args.mono _ _
      | exact grommetref03_Eval.mono _ _ _
      | exact num_Eval.mono _ _ _
      | exact LeO.none _
      | refine LeO.ite ?_ ?_
      | refine LeO.bind ?_ (fun _ => ?_)
    · intro y0 y1 y2 y3 y4 y5 y6
      unfold grommetlaw03_NumAll.j1
      repeat' first
      | (with_reducible exact ih0 _ _ _ _)
      | (with_reducible exact ih1 _ _ _ _ _ _ _)
      | (with_reducible exact grommetlaw03_up.mono _)
      | (with_reducible exact grommetref03_Args.mono _ _)
      | (with_reducible exact grommetref03_Eval.mono _ _ _)
      | (with_reducible exact num_Eval.mono _ _ _)
      | (with_reducible exact LeO.refl _)
      | (with_reducible exact LeO.none _)
      | (with_reducible refine LeO.ite ?_ ?_)
      | (with_reducible refine LeO.bind ?_ (fun _ => ?_))
      | exact ih0 _ _ _ _
      | exact ih1 _ _ _ _ _ _ _
      | exact grommetlaw03_up.mono _
      | exact grommetref03_Args.mono _ _
      | exact grommetref03_Eval.mono _ _ _
      | exact num_Eval.mono _ _ _
      | exact LeO.none _
      | refine LeO.ite ?_ ?_
      | refine LeO.bind ?_ (fun _ => ?_)
theorem grommetlaw03_NumAll.mono : ∀ a0 a1 k, LeO (grommetlaw03_NumAll.f k a0 a1) (grommetlaw03_NumAll.f (k + 1) a0 a1) := by
  intro a0 a1 k
  obtain ⟨ih0, ih1⟩ := grommetlaw03_NumAll.mono_l k
  unfold grommetlaw03_NumAll.f
  repeat' first
      | (with_reducible exact ih0 _ _ _ _)
      | (with_reducible exact ih1 _ _ _ _ _ _ _)
      | (with_reducible exact grommetlaw03_up.mono _)
      | (with_reducible exact grommetref03_Args.mono _ _)
      | (with_reducible exact grommetref03_Eval.mono _ _ _)
      | (with_reducible exact num_Eval.mono _ _ _)
      | (with_reducible exact LeO.refl _)
      | (with_reducible exact LeO.none _)
      | (with_reducible refine LeO.ite ?_ ?_)
      | (with_reducible refine LeO.bind ?_ (fun _ => ?_))
      | exact ih0 _ _ _ _
      | exact ih1 _ _ _ _ _ _ _
      | exact grommetlaw03_up.mono _
      | exact grommetref03_Args.mono _ _
      | exact grommetref03_Eval.mono _ _ _
      | exact num_Eval.mono _ _ _
      | exact LeO.none _
      | refine LeO.ite ?_ ?_
      | refine LeO.bind ?_ (fun _ => ?_)
set_option maxHeartbeats 8000000 in
set_option maxRecDepth 100000 in
theorem grommetlaw03_NumAll.calls (k : Nat) (a0 : Int) (a1 : Int) (r : Bool) (w : World) (hG : GL w) (h : grommetlaw03_NumAll.f k a0 a1 = some r) (hrt : r = true) :
    Calls Tryd.prog 5 #[.int .u64 a0, .int .u64 a1] w fun e w' => e = .returned (.bool r) ∧ Below w.heap.size w w' := by
  have HRT := Aside0.mk hrt
  clear hrt
  have hu30 := Tryd.underlying30
  have hu33 := Tryd.underlying33
  have HGL := Aside0.mk hG
  clear hG
  have HB := Aside0.mk (Below.refl w.heap.size w)
  have H : ((grommetlaw03_up.f k).bind fun t218 => (grommetlaw03_NumAll.l0 k a0 a1 t218 69)) = some r := h
  clear h
  replace H := Option.bind_eq_some_iff.mp H
  obtain ⟨t218, A30, H⟩ := H
  replace H : (grommetlaw03_NumAll.l0 k a0 a1 t218 69) = some r := H
  have A3 := Aside0.mk A30
  clear A30
  have H' := Aside0.mk H
  clear H
  go_enter Tryd.func5, Tryd.ntmps5
  go_wp2_with (first | ((with_reducible refine gate_callee (f := 10) rfl ?_); refine goesL_ (some 16) rfl rfl Tryd.func10 (by kernel_rfl) rfl #[] rfl (by (try simp only [List.map_toArray, List.map_cons, List.map_nil]); first | done | rfl | (simp only [List.length_drop, List.length_take]; rfl)) ?_; (with_reducible refine (grommetlaw03_up.calls k  t218 _ (GL_at HGL.out (by repeat (first | (with_reducible first | exact HB.out | apply below_alloc | apply pw_below_drewN | apply below_drew1) | exact HB.out))) A3.out).mono ?_); rintro e w4 ⟨rfl, hb⟩; refine ⟨_, rfl, ?_⟩; have n0_ := Aside0.mk (below_step (by repeat (first | (with_reducible first | exact HB.out | apply below_alloc | apply pw_below_drewN | apply below_drew1) | exact HB.out)) hb); clear HB; have HB := n0_; clear n0_; (try clear hb); (try clear hb2); (try clear hk); (try clear hi)))
  go_loopg [6] k (fun kq v6 w' => ∃ (x6_1 : Int), v6 = .int .i64 x6_1 ∧ Aside0 (grommetlaw03_NumAll.l0 kq a0 a1 t218 x6_1 = some r) ∧ Aside0 (kq ≤ k) ∧ Aside0 (Below w.heap.size w w'))
  case atStart => exact ⟨(69), (by first | rfl | (simp; done) | (simp [*]; done)), H', ⟨Nat.le_refl _⟩, ⟨by repeat (first | (with_reducible first | exact HB.out | apply below_alloc | apply pw_below_drewN | apply below_drew1) | exact HB.out)⟩⟩
  case round =>
    clear H'
    try clear c1
    try clear p2
    obtain ⟨x6_1, rfl, HA, HK1, HB⟩ := hrel
    cases gk with
    | zero => exact absurd HA.out (by simp [grommetlaw03_NumAll.l0])
    | succ k1 =>
      have H := HA.out
      clear HA
      simp only [grommetlaw03_NumAll.l0] at H
      by_cases c5 : x6_1 ≤ 173
      · rw [if_pos c5] at H
        have c5b0 : decide (x6_1 ≤ 173) = true := decide_eq_true c5
        clear c5
        replace H := Option.bind_eq_some_iff.mp H
        obtain ⟨t219, A60, H⟩ := H
        replace H : (if t219 < 0 then (grommetlaw03_NumAll.l0 k1 a0 a1 t218 (wrap64 (x6_1 + 1))) else ((grommetref03_Bits.f x6_1).bind fun t220 => (if t220 = 32 then (grommetlaw03_NumAll.j1 k1 a0 a1 t218 x6_1 t219 (Int.tmod a0 4294967296) (Int.tmod a1 4294967296)) else (grommetlaw03_NumAll.j1 k1 a0 a1 t218 x6_1 t219 a0 a1)))) = some r := H
        have A6 := Aside0.mk A60
        clear A60
        by_cases c7 : t219 < 0
        · rw [if_pos c7] at H
          have c7b0 : decide (t219 < 0) = true := decide_eq_true c7
          clear c7
          have H' := Aside0.mk H
          clear H
          go_wp2_with (first | ((with_reducible refine gate_callee (f := 12) rfl ?_); refine goesL_ (some 22) rfl rfl Tryd.func12 (by kernel_rfl) rfl #[.int .i64 x6_1] rfl (by (try simp only [List.map_toArray, List.map_cons, List.map_nil]); first | done | rfl | (simp only [List.length_drop, List.length_take]; rfl)) ?_; (with_reducible refine (grommetref03_Args.calls k1 x6_1 t219 _ A6.out).mono ?_); rintro e w' ⟨rfl, ⟨nd, rfl⟩⟩; refine ⟨_, rfl, ?_⟩))
          go_roundg k1
          case measure => have := HK1.out; omega
          case rel => exact ⟨(wrap64 (x6_1 + 1)), (by first | rfl | (simp; done) | (simp [*]; done)), H', ⟨by have := HK1.out; omega⟩, ⟨by repeat (first | (with_reducible first | exact HB.out | apply below_alloc | apply pw_below_drewN | apply below_drew1) | exact HB.out)⟩⟩
        · rw [if_neg c7] at H
          have c7b0 : decide (t219 < 0) = false := decide_eq_false c7
          clear c7
          replace H := Option.bind_eq_some_iff.mp H
          obtain ⟨t220, A80, H⟩ := H
          replace H : (if t220 = 32 then (grommetlaw03_NumAll.j1 k1 a0 a1 t218 x6_1 t219 (Int.tmod a0 4294967296) (Int.tmod a1 4294967296)) else (grommetlaw03_NumAll.j1 k1 a0 a1 t218 x6_1 t219 a0 a1)) = some r := H
          have A8 := Aside0.mk A80
          clear A80
          have HC9 := Aside0.mk H
          clear H
          go_upto_if 29 with (first | ((with_reducible refine gate_callee (f := 12) rfl ?_); refine goesL_ (some 22) rfl rfl Tryd.func12 (by kernel_rfl) rfl #[.int .i64 x6_1] rfl (by (try simp only [List.map_toArray, List.map_cons, List.map_nil]); first | done | rfl | (simp only [List.length_drop, List.length_take]; rfl)) ?_; (with_reducible refine (grommetref03_Args.calls k1 x6_1 t219 _ A6.out).mono ?_); rintro e w' ⟨rfl, ⟨nd, rfl⟩⟩; refine ⟨_, rfl, ?_⟩) | ((with_reducible refine gate_callee (f := 14) rfl ?_); refine goesL_ (some 28) rfl rfl Tryd.func14 (by kernel_rfl) rfl #[.int .i64 x6_1] rfl (by (try simp only [List.map_toArray, List.map_cons, List.map_nil]); first | done | rfl | (simp only [List.length_drop, List.length_take]; rfl)) ?_; (with_reducible refine (grommetref03_Bits.calls x6_1 t220 _ A8.out).mono ?_); rintro e w' ⟨rfl, ⟨nd, rfl⟩⟩; refine ⟨_, rfl, ?_⟩))
          (try simp only [Act.put, List.setIfInBounds_toArray, List.set_cons_zero, List.set_cons_succ])
          go_cut [8, 9] (fun v8 v9 wc => ∃ (kq : Nat) (x8_8 : Int) (x9_8 : Int), v8 = .int .u64 x8_8 ∧ v9 = .int .u64 x9_8 ∧ Aside0 (grommetlaw03_NumAll.j1 kq a0 a1 t218 x6_1 t219 x8_8 x9_8 = some r) ∧ Aside0 (kq ≤ k1) ∧ Aside0 (Below w.heap.size w wc))
          case first =>
            have H := HC9.out
            clear HC9
            by_cases c10 : t220 = 32
            · rw [if_pos c10] at H
              have c10b0 : (t220 == 32) = true := beq_iff_eq.mpr c10
              have c10b1 : (t220 != 32) = false := bne_eq_false_iff_eq.mpr c10
              clear c10
              (first | rw [c10b0] | (simp only [i64_w, i32_w]; rw [c10b0]) | skip)
              have H' := Aside0.mk H
              clear H
              go_wp2
              go_meet
              case rel => exact ⟨_, (Int.tmod a0 4294967296), (Int.tmod a1 4294967296), (by first | rfl | (simp; done) | (simp [*]; done)), (by first | rfl | (simp; done) | (simp [*]; done)), H', ⟨by have := HK1.out; first | omega | exact Nat.le_refl _⟩, ⟨by repeat (first | (with_reducible first | exact HB.out | apply below_alloc | apply pw_below_drewN | apply below_drew1) | exact HB.out)⟩⟩
            · rw [if_neg c10] at H
              have c10b0 : (t220 == 32) = false := beq_eq_false_iff_ne.mpr c10
              have c10b1 : (t220 != 32) = true := bne_iff_ne.mpr c10
              (first | rw [c10b0] | (simp only [i64_w, i32_w]; rw [c10b0]) | skip)
              have H' := Aside0.mk H
              clear H
              go_wp2
              go_meet
              case rel => exact ⟨_, (a0), (a1), (by first | rfl | (simp; done) | (simp [*]; done)), (by first | rfl | (simp; done) | (simp [*]; done)), H', ⟨by have := HK1.out; first | omega | exact Nat.le_refl _⟩, ⟨by repeat (first | (with_reducible first | exact HB.out | apply below_alloc | apply pw_below_drewN | apply below_drew1) | exact HB.out)⟩⟩
          case rest =>
            clear HC9
            try clear c1
            try clear p2
            try clear c5
            try clear c5b0
            try clear p6
            try clear c7
            try clear c7b0
            try clear c10
            try clear c10b0
            try clear c10b1
            try clear p2
            obtain ⟨kq, x8_8, x9_8, rfl, rfl, HA, HJ8, HB⟩ := hcut
            cases kq with
            | zero => exact absurd HA.out (by simp [grommetlaw03_NumAll.j1])
            | succ kj8 =>
              have H := HA.out
              clear HA
              simp only [grommetlaw03_NumAll.j1] at H
              obtain ⟨y221, hy221⟩ : ∃ y_ : List Int, y_ = (([x8_8, x9_8] : List Int)) := ⟨_, rfl⟩
              replace H : (if 0 ≤ t219 then (if t219 ≤ (y221.length : Int) then ((num_Eval.f kj8 x6_1 (y221.take (t219 : Int).toNat)).bind fun bt228 => ((grommetref03_Eval.f kj8 x6_1 (y221.take (t219 : Int).toNat)).bind fun bt235 => (if bt228.2.2.isNone = true then (if bt228.1 = bt235.1 then (if bt228.2.1 = bt235.2 then (grommetlaw03_NumAll.l0 kj8 a0 a1 t218 (wrap64 (x6_1 + 1))) else (some false)) else (some false)) else (some false)))) else (none)) else (none)) = some r := by first | (rw [hy221]; with_reducible exact H) | (have H2_ := (Option.bind_some _ _).symm.trans H; rw [hy221]; with_reducible exact H2_) | (have H2_ := (Option.bind_some _ _).symm.trans H; with_reducible exact H2_) | with_reducible exact H | (rw [hy221]; exact H) | exact H
              have Ny221 := Aside0.mk hy221
              clear hy221
              by_cases c11 : 0 ≤ t219
              · rw [if_pos c11] at H
                have c11b0 := eq_true c11
                have c11b1 : decide (0 ≤ t219) = true := decide_eq_true c11
                clear c11
                by_cases c12 : t219 ≤ (y221.length : Int)
                · rw [if_pos c12] at H
                  have c12b0 := eq_true c12
                  have c12b1 : decide (t219 ≤ (y221.length : Int)) = true := decide_eq_true c12
                  clear c12
                  obtain ⟨y224, hy224⟩ : ∃ y_ : List Int, y_ = (y221.take (t219 : Int).toNat) := ⟨_, rfl⟩
                  replace H : ((num_Eval.f kj8 x6_1 y224).bind fun bt228 => ((grommetref03_Eval.f kj8 x6_1 (y221.take (t219 : Int).toNat)).bind fun bt235 => (if bt228.2.2.isNone = true then (if bt228.1 = bt235.1 then (if bt228.2.1 = bt235.2 then (grommetlaw03_NumAll.l0 kj8 a0 a1 t218 (wrap64 (x6_1 + 1))) else (some false)) else (some false)) else (some false)))) = some r := by first | (rw [hy224]; with_reducible exact H) | (have H2_ := (Option.bind_some _ _).symm.trans H; rw [hy224]; with_reducible exact H2_) | (have H2_ := (Option.bind_some _ _).symm.trans H; with_reducible exact H2_) | with_reducible exact H | (rw [hy224]; exact H) | exact H
                  have Ny224 := Aside0.mk hy224
                  clear hy224
                  replace H := Option.bind_eq_some_iff.mp H
                  obtain ⟨⟨t228, t229, t230⟩, A130, H⟩ := H
                  replace H : ((grommetref03_Eval.f kj8 x6_1 (y221.take (t219 : Int).toNat)).bind fun bt235 => (if t230.isNone = true then (if t228 = bt235.1 then (if t229 = bt235.2 then (grommetlaw03_NumAll.l0 kj8 a0 a1 t218 (wrap64 (x6_1 + 1))) else (some false)) else (some false)) else (some false))) = some r := H
                  have A13 := Aside0.mk A130
                  clear A130
                  have c14b0 := eq_true (of_decide_eq_true (by first | (with_reducible assumption) | assumption) : 0 ≤ t219)
                  have c15b0 := eq_true (of_decide_eq_true (by first | (with_reducible assumption) | assumption) : t219 ≤ (y221.length : Int))
                  rw [← Ny224.out] at H
                  replace H := Option.bind_eq_some_iff.mp H
                  obtain ⟨⟨t235, t236⟩, A160, H⟩ := H
                  replace H : (if t230.isNone = true then (if t228 = t235 then (if t229 = t236 then (grommetlaw03_NumAll.l0 kj8 a0 a1 t218 (wrap64 (x6_1 + 1))) else (some false)) else (some false)) else (some false)) = some r := H
                  have A16 := Aside0.mk A160
                  clear A160
                  rcases t230 with _ | q237
                  · have H1 : (if t228 = t235 then (if t229 = t236 then (grommetlaw03_NumAll.l0 kj8 a0 a1 t218 (wrap64 (x6_1 + 1))) else (some false)) else (some false)) = some r := by rw [if_pos (show (none : Option Int).isNone = true by rfl)] at H; exact H
                    clear H
                    have H := H1
                    clear H1
                    try simp only [errW_none, errW_some]
                    by_cases c17 : t228 = t235
                    · rw [if_pos c17] at H
                      have c17b0 : (t228 == t235) = true := beq_iff_eq.mpr c17
                      have c17b1 : (t228 != t235) = false := bne_eq_false_iff_eq.mpr c17
                      clear c17
                      by_cases c18 : t229 = t236
                      · rw [if_pos c18] at H
                        have c18b0 : (t229 == t236) = true := beq_iff_eq.mpr c18
                        have c18b1 : (t229 != t236) = false := bne_eq_false_iff_eq.mpr c18
                        clear c18
                        have H' := Aside0.mk H
                        clear H
                        go_wp2_with (first | ((with_reducible refine gate_dst (N := 36) rfl ?_); refine Kd.R_lit (Kd.int .u64) _ 28 ?hg (N := 36) ?hd (xs := ([x8_8, x9_8] : List Int)) (inner := [.int .u64 x8_8, .int .u64 x9_8]) (ok := fun _ => True) (okp := fun _ => True) ?hr ?hp (fun _ hk => hk) trivial (Below.refl _ _) (Nat.le_refl _) (by simp) ?_; (case hd => rfl); (case hg => rfl); (case hr => first | (go_simp; done) | (go_simp; rfl)); (case hp => exact (Reps.one (show Kd.M (Kd.int .u64) _ _ _ x8_8 [.int .u64 x8_8] from rfl) (Reps.one (show Kd.M (Kd.int .u64) _ _ _ x9_8 [.int .u64 x9_8] from rfl) (Reps.none _ _)))); intro v222 w19 ho20 hb hg_ hnew_; clear hg_ hnew_; (first | rw [← Ny221.out] at ho20 | (simp only [Int.reduceToNat] at ho20; rw [← Ny221.out] at ho20)); have n0_ := Aside0.mk (Kd.R_lower ho20 (below_size (by repeat (first | (with_reducible first | exact HB.out | apply below_alloc | apply pw_below_drewN | apply below_drew1) | exact HB.out)))); have n1_ := Aside0.mk (below_step (by repeat (first | (with_reducible first | exact HB.out | apply below_alloc | apply pw_below_drewN | apply below_drew1) | exact HB.out)) hb); clear HB; have HO223 := n0_; have HB := n1_; clear n0_ n1_; clear hb ho20; obtain ⟨Ao22, co22, eo22⟩ := Kd.R_slice HO223.out; subst eo22; have q21 : (t219 : Int) ≤ ((y221.length : Int) : Int) := of_decide_eq_true (by first | (with_reducible assumption) | assumption); obtain ⟨i021, hi021, _, hsz21, _⟩ := info_parts info28; have hroom21 : y221.length ≤ co22 := (Kd.R_reads' HO223.out).2.1; have hC21 : Kd.C (Kd.int .u64) _ Ao22 y221.length y221 := (Kd.R_reads' HO223.out).2.2; have hcut21 := cut_to (P := Tryd.prog) 27 28 .i64 Tryd.underlying27 hi021 Ao22 y221.length co22 t219 (of_decide_eq_true (by first | (with_reducible assumption) | assumption)) q21 hroom21; have hr21 := Kd.C_take (m := (t219 : Int).toNat) hC21 (by omega); have hy21 : y224.length = (t219 : Int).toNat := (by rw [Ny224.out, List.length_take]; omega); rw [← Ny224.out] at hr21; rw [← hy21] at hcut21; have HR227 := Aside0.mk hr21; have HC227 := Aside0.mk (show y224.length ≤ co22 from by omega); clear hr21 hC21 hroom21 hi021 hsz21; have KY21 := Aside0.mk hy21; clear hy21; have KL21 := Aside0.mk (show (t219 : Int).toNat ≤ y221.length from by omega); replace q21 := eq_true q21) | ((with_reducible refine gate_callee (f := 13) rfl ?_); refine goesL_ (some 42) rfl rfl Tryd.func13 (by kernel_rfl) rfl #[.int .i64 x6_1, .slice Ao22 y224.length co22] rfl (by (try simp only [List.map_toArray, List.map_cons, List.map_nil]); first | done | rfl | (simp only [List.length_drop, List.length_take]; rfl)) ?_; (with_reducible refine (num_Eval.calls kj8 x6_1 _ _ y224 t228 t229 none _ (GL_at HGL.out (by repeat (first | (with_reducible first | exact HB.out | apply below_alloc | apply pw_below_drewN | apply below_drew1) | exact HB.out))) ?side1 ?side2 A13.out).mono ?_); (case side1 => repeat (first | exact (by repeat (first | (with_reducible exact HR227.out) | (with_reducible refine Kd.C_alloc ?_ _) | (with_reducible refine Kd.C_drewN ?_ _) | (with_reducible refine Kd.C_drew ?_) | exact HR227.out)) | (with_reducible refine Kd.C_alloc ?_ _) | (with_reducible refine Kd.C_drewN ?_ _) | (with_reducible refine Kd.C_drew ?_))); (case side2 => exact HC227.out); rintro e w23 ⟨rfl, hb⟩; refine ⟨_, rfl, ?_⟩; have n0_ := Aside0.mk (Kd.R_below (by (with_reducible repeat (first | apply Kd.R_alloc | apply Kd.R_drewN | apply Kd.R_drew)); exact HO223.out) hb); have n1_ := Aside0.mk (Kd.C_below (by repeat (first | (with_reducible exact HR227.out) | (with_reducible refine Kd.C_alloc ?_ _) | (with_reducible refine Kd.C_drewN ?_ _) | (with_reducible refine Kd.C_drew ?_) | exact HR227.out)) hb); have n2_ := Aside0.mk (below_step (by repeat (first | (with_reducible first | exact HB.out | apply below_alloc | apply pw_below_drewN | apply below_drew1) | exact HB.out)) hb); clear HO223; clear HR227; clear HB; have HO223 := n0_; have HR227 := n1_; have HB := n2_; clear n0_ n1_ n2_; (try clear hb); (try clear hb2); (try clear hk); (try clear hi); (try simp only [errW_none, errW_some]); have q24 : (t219 : Int) ≤ ((y221.length : Int) : Int) := of_decide_eq_true (by first | (with_reducible assumption) | assumption); obtain ⟨i024, hi024, _, hsz24, _⟩ := info_parts info28; have hroom24 : y221.length ≤ co22 := (Kd.R_reads' HO223.out).2.1; have hC24 : Kd.C (Kd.int .u64) _ Ao22 y221.length y221 := (Kd.R_reads' HO223.out).2.2; have hcut24 := cut_to (P := Tryd.prog) 27 28 .i64 Tryd.underlying27 hi024 Ao22 y221.length co22 t219 (of_decide_eq_true (by first | (with_reducible assumption) | assumption)) q24 hroom24; have hr24 := Kd.C_take (m := (t219 : Int).toNat) hC24 (by omega); have hy24 : y224.length = (t219 : Int).toNat := (by rw [Ny224.out, List.length_take]; omega); rw [← Ny224.out] at hr24; rw [← hy24] at hcut24; have HR234 := Aside0.mk hr24; have HC234 := Aside0.mk (show y224.length ≤ co22 from by omega); clear hr24 hC24 hroom24 hi024 hsz24; have KY24 := Aside0.mk hy24; clear hy24; have KL24 := Aside0.mk (show (t219 : Int).toNat ≤ y221.length from by omega); replace q24 := eq_true q24) | ((with_reducible refine gate_callee (f := 15) rfl ?_); refine goesL_ (some 51) rfl rfl Tryd.func15 (by kernel_rfl) rfl #[.int .i64 x6_1, .slice Ao22 y224.length co22] rfl (by (try simp only [List.map_toArray, List.map_cons, List.map_nil]); first | done | rfl | (simp only [List.length_drop, List.length_take]; rfl)) ?_; (with_reducible refine (grommetref03_Eval.calls kj8 x6_1 _ _ y224 t235 t236 _ ?side1 ?side2 A16.out).mono ?_); (case side1 => repeat (first | exact (by repeat (first | (with_reducible exact HR234.out) | (with_reducible refine Kd.C_alloc ?_ _) | (with_reducible refine Kd.C_drewN ?_ _) | (with_reducible refine Kd.C_drew ?_) | exact HR234.out)) | (with_reducible refine Kd.C_alloc ?_ _) | (with_reducible refine Kd.C_drewN ?_ _) | (with_reducible refine Kd.C_drew ?_))); (case side2 => exact HC234.out); rintro e w' ⟨rfl, ⟨nd, rfl⟩⟩; refine ⟨_, rfl, ?_⟩))
                        go_roundg kj8
                        case measure => have := HK1.out; have := HJ8.out; omega
                        case rel => exact ⟨(wrap64 (x6_1 + 1)), (by first | rfl | (simp; done) | (simp [*]; done)), H', ⟨by have := HK1.out; have := HJ8.out; omega⟩, ⟨by repeat (first | (with_reducible first | exact HB.out | apply below_alloc | apply pw_below_drewN | apply below_drew1) | exact HB.out)⟩⟩
                      · rw [if_neg c18] at H
                        have c18b0 : (t229 == t236) = false := beq_eq_false_iff_ne.mpr c18
                        have c18b1 : (t229 != t236) = true := bne_iff_ne.mpr c18
                        exact absurd ((Option.some.inj H).trans HRT.out) (by decide)
                    · rw [if_neg c17] at H
                      have c17b0 : (t228 == t235) = false := beq_eq_false_iff_ne.mpr c17
                      have c17b1 : (t228 != t235) = true := bne_iff_ne.mpr c17
                      exact absurd ((Option.some.inj H).trans HRT.out) (by decide)
                  · have H1 : (some false) = some r := by rw [if_neg (show ¬ (some q237).isNone = true by simp)] at H; exact H
                    clear H
                    have H := H1
                    clear H1
                    try simp only [errW_none, errW_some]
                    exact absurd ((Option.some.inj H).trans HRT.out) (by decide)
                · rw [if_neg c12] at H
                  exact absurd H (by simp)
              · rw [if_neg c11] at H
                exact absurd H (by simp)
      · rw [if_neg c5] at H
        have c5b0 : decide (x6_1 ≤ 173) = false := decide_eq_false c5
        clear c5
        obtain rfl := Option.some.inj H
        go_wp2
        go_ret
        exact ⟨by first | rfl | (simp [errW_none, errW_some] <;> rfl) | (simp [*, errW_none, errW_some] <;> rfl), by repeat (first | (with_reducible first | exact HB.out | apply below_alloc | apply pw_below_drewN | apply below_drew1) | exact HB.out)⟩

/-- THE ONE PURE STATEMENT of grommetlaw03_NumAll: yours. -/
def grommetlaw03_NumAll.Pure : Prop := ∀ (a0 : Int) (a1 : Int), (Lit.int .u64 a0).wf = true → (Lit.int .u64 a1).wf = true → ∃ k, grommetlaw03_NumAll.f k a0 a1 = some true
theorem grommetlaw03_NumAll.walk (P : grommetlaw03_NumAll.Pure) (a0 : Int) (a1 : Int) (w : World) (hG : GL w) (w0 : (Lit.int .u64 a0).wf = true) (w1 : (Lit.int .u64 a1).wf = true) :
    Calls Tryd.prog 5 #[.int .u64 a0, .int .u64 a1] w fun e w' => e = .returned (.bool true) ∧ Below w.heap.size w w' := by
  obtain ⟨k, h⟩ := P a0 a1 w0 w1
  refine (grommetlaw03_NumAll.calls k a0 a1 true w hG h rfl).mono ?_
  rintro e w' ⟨rfl, hd⟩
  exact ⟨rfl, hd⟩

end Go.Proofs.YtgplakhkofchiaaDoor.RNumAll
