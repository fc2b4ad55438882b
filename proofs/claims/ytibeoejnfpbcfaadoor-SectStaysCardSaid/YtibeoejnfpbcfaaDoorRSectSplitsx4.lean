-- Made by the program wip/patchprint.py (this session's own, over the kit's print)
import Derived.Test.YtibeoejnfpbcfaaDoorRSectSplitsx0
import Derived.Test.YtibeoejnfpbcfaaDoorRSectSplitsx2
import Derived.Test.YtibeoejnfpbcfaaDoorRSectSplitsx3
namespace Go.Proofs.YtibeoejnfpbcfaaDoor.RSectSplits
open Go.RowKit Go.Proofs.YtibeoejnfpbcfaaDoorW.PrintWords Go.Proofs.YtibeoejnfpbcfaaDoorW.PrintLast Go.Proofs.YtibeoejnfpbcfaaDoorW.PrintMore
attribute [local go_sem] max2_int min2_int max_two min_two max_three min_three max_four min_four   -- for this text's walks alone
set_option linter.unusedVariables false
set_option linter.unusedSimpArgs false
set_option linter.unnecessarySimpa false

attribute [local go_sem] err_eql err_neq err_nil_eql err_nil_neq
attribute [local simp] shl_zero
/-! ### grommetref07_Split: function 10 -/
mutual
def grommetref07_Split.j0 : Nat → List Int → Bool → Option ((List (S34)) × Int × Int)
  | 0, _, _ => none
  | k + 1, x0, x24 => if x24 = true then (some (([] : List (S34)), 2, 0)) else (grommetref07_Split.l0 k x0 ([] : List (S34)) 0 8)
def grommetref07_Split.l0 : Nat → List Int → List (S34) → Int → Int → Option ((List (S34)) × Int × Int)
  | 0, _, _, _, _ => none
  | k + 1, x0, x6, x7, x8 => if x8 < (x0.length : Int) then (if 0 ≤ x8 then (if (wrap64 (rd x0 x8)) > 11 then (grommetref07_Split.j2 k x0 x6 x7 x8 (wrap64 (rd x0 x8)) true) else (if (wrap64 (rd x0 x8)) = 0 then (grommetref07_Split.j2 k x0 x6 x7 x8 (wrap64 (rd x0 x8)) false) else (grommetref07_Split.j2 k x0 x6 x7 x8 (wrap64 (rd x0 x8)) (decide ((wrap64 (rd x0 x8)) ≤ x7))))) else (none)) else (some (x6, 0, (-1)))
def grommetref07_Split.j2 : Nat → List Int → List (S34) → Int → Int → Int → Bool → Option ((List (S34)) × Int × Int)
  | 0, _, _, _, _, _, _ => none
  | k + 1, x0, x6, x7, x8, x9, x44 => if x44 = true then (some (([] : List (S34)), 2, x8)) else (if (x6.length : Int) ≥ 128 then (some (([] : List (S34)), 7, x8)) else (if x9 = 0 then ((grommetref01_Read.f k x0 (wrap64 (x8 + 1)) 32 false).bind fun bt177 => (if bt177.2.2 = true then (if bt177.1 > (IntKind.u64.wrap (wrap64 ((x0.length : Int) - bt177.2.1))) then (some (([] : List (S34)), 2, wrap64 (x8 + 1))) else ((some (([] : List Int) : List Int)).bind fun y180 => (if 0 ≤ bt177.2.1 then (if bt177.2.1 ≤ (wrap64 (bt177.2.1 + (wrap64 (bt177.1)))) then (if (wrap64 (bt177.2.1 + (wrap64 (bt177.1)))) ≤ (x0.length : Int) then (if y180.length + ((x0.take ((wrap64 (bt177.2.1 + (wrap64 (bt177.1)))) : Int).toNat).drop (bt177.2.1 : Int).toNat).length < 140737488355328 then (if x6.length < 3518437208883 then (grommetref07_Split.l0 k x0 (x6 ++ [(⟨x9, bt177.2.1, (y180 ++ ((x0.take ((wrap64 (bt177.2.1 + (wrap64 (bt177.1)))) : Int).toNat).drop (bt177.2.1 : Int).toNat))⟩ : S34)]) x7 (wrap64 (bt177.2.1 + (wrap64 (bt177.1))))) else (none)) else (none)) else (none)) else (none)) else (none)))) else (some (([] : List (S34)), 2, wrap64 (x8 + 1))))) else ((grommetref01_Read.f k x0 (wrap64 (x8 + 1)) 32 false).bind fun bt190 => (if bt190.2.2 = true then (if bt190.1 > (IntKind.u64.wrap (wrap64 ((x0.length : Int) - bt190.2.1))) then (some (([] : List (S34)), 2, wrap64 (x8 + 1))) else ((some (([] : List Int) : List Int)).bind fun y193 => (if 0 ≤ bt190.2.1 then (if bt190.2.1 ≤ (wrap64 (bt190.2.1 + (wrap64 (bt190.1)))) then (if (wrap64 (bt190.2.1 + (wrap64 (bt190.1)))) ≤ (x0.length : Int) then (if y193.length + ((x0.take ((wrap64 (bt190.2.1 + (wrap64 (bt190.1)))) : Int).toNat).drop (bt190.2.1 : Int).toNat).length < 140737488355328 then (if x6.length < 3518437208883 then (grommetref07_Split.l0 k x0 (x6 ++ [(⟨x9, bt190.2.1, (y193 ++ ((x0.take ((wrap64 (bt190.2.1 + (wrap64 (bt190.1)))) : Int).toNat).drop (bt190.2.1 : Int).toNat))⟩ : S34)]) x9 (wrap64 (bt190.2.1 + (wrap64 (bt190.1))))) else (none)) else (none)) else (none)) else (none)) else (none)))) else (some (([] : List (S34)), 2, wrap64 (x8 + 1)))))))
end
def grommetref07_Split.f (k : Nat) (l0 : List Int) : Option ((List (S34)) × Int × Int) := (grommetref07_Magic.f).bind fun t172 => (if (l0.length : Int) < 8 then (grommetref07_Split.j0 k l0 true) else (if 8 ≤ (l0.length : Int) then (grommetref07_Split.j0 k l0 ((strOfNums (l0.take 8)).toList != (strOfNums t172).toList)) else (none)))
theorem grommetref07_Split.mono_l : ∀ k, (∀ y0 y1, LeO (grommetref07_Split.j0 k y0 y1) (grommetref07_Split.j0 (k + 1) y0 y1)) ∧ (∀ y0 y1 y2 y3, LeO (grommetref07_Split.l0 k y0 y1 y2 y3) (grommetref07_Split.l0 (k + 1) y0 y1 y2 y3)) ∧ (∀ y0 y1 y2 y3 y4 y5, LeO (grommetref07_Split.j2 k y0 y1 y2 y3 y4 y5) (grommetref07_Split.j2 (k + 1) y0 y1 y2 y3 y4 y5))
  | 0 => ⟨fun _ _ r h => by simp [grommetref07_Split.j0] at h, fun _ _ _ _ r h => by simp [grommetref07_Split.l0] at h, fun _ _ _ _ _ _ r h => by simp [grommetref07_Split.j2] at h⟩
  | k + 1 => by
    obtain ⟨ih0, ih1, ih2⟩ := grommetref07_Split.mono_l k
    refine ⟨?_, ?_, ?_⟩
    · intro y0 y1
      unfold grommetref07_Split.j0
      repeat' first
      | (with_reducible exact ih0 _ _)
      | (with_reducible exact ih1 _ _ _ _)
      | (with_reducible exact ih2 _ _ _ _ _ _)
      | (with_reducible exact grommetref01_Read.mono _ _ _ _ _)
      | (with_reducible exact LeO.refl _)
      | (with_reducible exact LeO.none _)
      | (with_reducible refine LeO.ite ?_ ?_)
      | (with_reducible refine LeO.bind ?_ (fun _ => ?_))
      | exact ih0 _ _
      | exact ih1 _ _ _ _
      | exact ih2 _ _ _ _ _ _
      | exact grommetref01_Read.mono _ _ _ _ _
      | exact LeO.none _
      | refine LeO.ite ?_ ?_
      | refine LeO.bind ?_ (fun _ => ?_)
    · intro y0 y1 y2 y3
      unfold grommetref07_Split.l0
      repeat' first
      | (with_reducible exact ih0 _ _)
      | (with_reducible exact ih1 _ _ _ _)
      | (with_reducible exact ih2 _ _ _ _ _ _)
      | (with_reducible exact grommetref01_Read.mono _ _ _ _ _)
      | (with_reducible exact LeO.refl _)
      | (with_reducible exact LeO.none _)
      | (with_reducible refine LeO.ite ?_ ?_)
      | (with_reducible refine LeO.bind ?_ (fun _ => ?_))
      | exact ih0 _ _
      | exact ih1 _ _ _ _
      | exact ih2 _ _ _ _ _ _
      | exact grommetref01_Read.mono _ _ _ _ _
      | exact LeO.none _
      | refine LeO.ite ?_ ?_
      | refine LeO.bind ?_ (fun _ => ?_)
    · intro y0 y1 y2 y3 y4 y5
      unfold grommetref07_Split.j2
      repeat' first
      | (with_reducible exact ih0 _ _)
      | (with_reducible exact ih1 _ _ _ _)
      | (with_reducible exact ih2 _ _ _ _ _ _)
      | (with_reducible exact grommetref01_Read.mono _ _ _ _ _)
      | (with_reducible exact LeO.refl _)
      | (with_reducible exact LeO.none _)
      | (with_reducible refine LeO.ite ?_ ?_)
      | (with_reducible refine LeO.bind ?_ (fun _ => ?_))
      | exact ih0 _ _
      | exact ih1 _ _ _ _
      | exact ih2 _ _ _ _ _ _
      | exact grommetref01_Read.mono _ _ _ _ _
      | exact LeO.none _
      | refine LeO.ite ?_ ?_
      | refine LeO.bind ?_ (fun _ => ?_)
theorem grommetref07_Split.mono : ∀ a0 k, LeO (grommetref07_Split.f k a0) (grommetref07_Split.f (k + 1) a0) := by
  intro a0 k
  obtain ⟨ih0, ih1, ih2⟩ := grommetref07_Split.mono_l k
  unfold grommetref07_Split.f
  repeat' first
      | (with_reducible exact ih0 _ _)
      | (with_reducible exact ih1 _ _ _ _)
      | (with_reducible exact ih2 _ _ _ _ _ _)
      | (with_reducible exact grommetref01_Read.mono _ _ _ _ _)
      | (with_reducible exact LeO.refl _)
      | (with_reducible exact LeO.none _)
      | (with_reducible refine LeO.ite ?_ ?_)
      | (with_reducible refine LeO.bind ?_ (fun _ => ?_))
      | exact ih0 _ _
      | exact ih1 _ _ _ _
      | exact ih2 _ _ _ _ _ _
      | exact grommetref01_Read.mono _ _ _ _ _
      | exact LeO.none _
      | refine LeO.ite ?_ ?_
      | refine LeO.bind ?_ (fun _ => ?_)
set_option maxHeartbeats 8000000 in
set_option maxRecDepth 100000 in
theorem grommetref07_Split.calls (k : Nat) (A0 : Option Addr) (c0 : Nat) (l0 : List Int) (r1 : List (S34)) (r2 : Int) (r3 : Int) (w : World) (hr0 : Kd.C (Kd.int .u8) w A0 l0.length l0) (hc0 : l0.length ≤ c0) (h : grommetref07_Split.f k l0 = some (r1, r2, r3)) :
    Calls Tryd.prog 10 #[.slice A0 l0.length c0] w fun e w' => ∃ v0_ : Value, e = .returned (.tuple #[v0_, .int .i64 r2, .int .i64 r3]) ∧ Kd.S k34 34 w' w.heap.size (fun _ => True) v0_ r1 ∧ Below w.heap.size w w' := by
  have hu34 := Tryd.underlying34
  have HR0 := Aside0.mk hr0
  have HC0 := Aside0.mk hc0
  clear hr0 hc0
  have HB := Aside0.mk (Below.refl w.heap.size w)
  have H : ((grommetref07_Magic.f).bind fun t172 => (if (l0.length : Int) < 8 then (grommetref07_Split.j0 k l0 true) else (if 8 ≤ (l0.length : Int) then (grommetref07_Split.j0 k l0 ((strOfNums (l0.take 8)).toList != (strOfNums t172).toList)) else (none)))) = some (r1, r2, r3) := h
  clear h
  replace H := Option.bind_eq_some_iff.mp H
  obtain ⟨t172, A20, H⟩ := H
  replace H : (if (l0.length : Int) < 8 then (grommetref07_Split.j0 k l0 true) else (if 8 ≤ (l0.length : Int) then (grommetref07_Split.j0 k l0 ((strOfNums (l0.take 8)).toList != (strOfNums t172).toList)) else (none))) = some (r1, r2, r3) := H
  have A2 := Aside0.mk A20
  clear A20
  have HC3 := Aside0.mk H
  clear H
  go_enter Tryd.func10, Tryd.ntmps10
  go_upto_region 2 with (first | (go_at_call 20; (with_reducible refine (grommetref07_Magic.calls  t172 _ A2.out).mono ?_); rintro e w4 ⟨v173, rfl, ho0, hb⟩; have n0_ := Aside0.mk (Kd.R_lower ho0 (below_size (by repeat (first | (with_reducible first | exact HB.out | apply below_alloc | apply pw_below_drewN | apply below_drew1) | exact HB.out)))); have n1_ := Aside0.mk (below_step (by repeat (first | (with_reducible first | exact HB.out | apply below_alloc | apply pw_below_drewN | apply below_drew1) | exact HB.out)) hb); clear HB; have HO174 := n0_; have HB := n1_; clear n0_ n1_; (try clear hb); (try clear hb2); (try clear hk); (try clear hi); (try clear ho0)))
  repeat (go_quiet (first | (go_at_call 20; (with_reducible refine (grommetref07_Magic.calls  t172 _ A2.out).mono ?_); rintro e w4 ⟨v173, rfl, ho0, hb⟩; have n0_ := Aside0.mk (Kd.R_lower ho0 (below_size (by repeat (first | (with_reducible first | exact HB.out | apply below_alloc | apply pw_below_drewN | apply below_drew1) | exact HB.out)))); have n1_ := Aside0.mk (below_step (by repeat (first | (with_reducible first | exact HB.out | apply below_alloc | apply pw_below_drewN | apply below_drew1) | exact HB.out)) hb); clear HB; have HO174 := n0_; have HB := n1_; clear n0_ n1_; (try clear hb); (try clear hb2); (try clear hk); (try clear hi); (try clear ho0))); go_upto_region 2 with (first | (go_at_call 20; (with_reducible refine (grommetref07_Magic.calls  t172 _ A2.out).mono ?_); rintro e w4 ⟨v173, rfl, ho0, hb⟩; have n0_ := Aside0.mk (Kd.R_lower ho0 (below_size (by repeat (first | (with_reducible first | exact HB.out | apply below_alloc | apply pw_below_drewN | apply below_drew1) | exact HB.out)))); have n1_ := Aside0.mk (below_step (by repeat (first | (with_reducible first | exact HB.out | apply below_alloc | apply pw_below_drewN | apply below_drew1) | exact HB.out)) hb); clear HB; have HO174 := n0_; have HB := n1_; clear n0_ n1_; (try clear hb); (try clear hb2); (try clear hk); (try clear hi); (try clear ho0))))
  (try simp only [Act.put, List.setIfInBounds_toArray, List.set_cons_zero, List.set_cons_succ])
  go_cut [24] (fun v24 wc => ∃ (kq : Nat) (x24_2 : Bool), v24 = .bool x24_2 ∧ Aside0 (grommetref07_Split.j0 kq l0 x24_2 = some (r1, r2, r3)) ∧ Aside0 (kq ≤ k) ∧ Aside0 (Below w.heap.size w wc))
  case first =>
    have H := HC3.out
    clear HC3
    by_cases c5 : (l0.length : Int) < 8
    · rw [if_pos c5] at H
      have c5b0 : decide ((l0.length : Int) < 8) = true := decide_eq_true c5
      have c5b1 : decide (l0.length < 8) = true := decide_eq_true (by omega)
      clear c5
      (first | rw [c5b0] | (simp only [i64_w, i32_w]; rw [c5b0]) | skip)
      have H' := Aside0.mk H
      clear H
      go_wp2
      repeat (go_quiet (fail); try go_wp2)
      go_meet
      case rel => exact ⟨_, (true), (by first | rfl | (simp; done) | (simp [*]; done)), H', ⟨by first | omega | exact Nat.le_refl _⟩, ⟨by repeat (first | (with_reducible first | exact HB.out | apply below_alloc | apply pw_below_drewN | apply below_drew1) | exact HB.out)⟩⟩
    · rw [if_neg c5] at H
      have c5b0 : decide ((l0.length : Int) < 8) = false := decide_eq_false c5
      have c5b1 : decide (l0.length < 8) = false := decide_eq_false (by omega)
      clear c5
      (first | rw [c5b0] | (simp only [i64_w, i32_w]; rw [c5b0]) | skip)
      by_cases c6 : 8 ≤ (l0.length : Int)
      · rw [if_pos c6] at H
        have c6b0 := eq_true c6
        have c6b1 : decide (8 ≤ (l0.length : Int)) = true := decide_eq_true c6
        clear c6
        have H' := Aside0.mk H
        clear H
        obtain ⟨i07, hi07, _, hsz7, _⟩ := info_parts info5
        obtain ⟨hcut7, hA7, hC7⟩ := print_take_of (P := Tryd.prog) (Value.int .u8) 0 22 5 .i64 Tryd.underlying22 hi07 hsz7 A0 c0 l0 8 (by omega) (of_decide_eq_true (by first | (with_reducible assumption) | assumption)) HC0.out
        have HR175 := Aside0.mk (Kd.C_of_reads (h1 := fun _ => rfl) (hA7 _ (Kd.reads_of_C HR0.out)))
        have HC175 := Aside0.mk hC7
        clear hA7 hC7 hi07 hsz7
        obtain ⟨L97, hL97⟩ : ∃ L, L = l0.take 8 := ⟨_, rfl⟩
        simp only [show Int.toNat 8 = 8 from rfl] at HR175 HC175 hcut7
        simp only [← hL97] at HR175 HC175 hcut7
        try simp only [← hL97] at H'
        clear hL97
        have hcv8 := Kd.C_string (P := Tryd.prog) (A := A0) (c := c0) Tryd.underlying22 Tryd.underlying5 Tryd.underlying9 (Kd.C_below HR175.out HB.out)
        have hcv8_ := fun k_ : Nat => Kd.C_string (P := Tryd.prog) (A := A0) (c := c0) Tryd.underlying22 Tryd.underlying5 Tryd.underlying9 (Kd.C_below (Kd.C_below HR175.out HB.out) (pw_below_drewN (Below.refl _ _) k_))
        have hcv9 := own_string (P := Tryd.prog) Tryd.underlying22 Tryd.underlying5 Tryd.underlying9 (Kd.own_of_R HO174.out)
        have hcv9_ := fun k_ : Nat => own_string (P := Tryd.prog) Tryd.underlying22 Tryd.underlying5 Tryd.underlying9 (Kd.own_of_R (Kd.R_below HO174.out (pw_below_drewN (Below.refl _ _) k_)))
        go_wp2
        repeat (go_quiet (fail); try go_wp2)
        go_meet
        case rel => exact ⟨_, (((strOfNums L97).toList != (strOfNums t172).toList)), (by first | rfl | (simp; done) | (simp [*]; done)), H', ⟨by first | omega | exact Nat.le_refl _⟩, ⟨by repeat (first | (with_reducible first | exact HB.out | apply below_alloc | apply pw_below_drewN | apply below_drew1) | exact HB.out)⟩⟩
      · rw [if_neg c6] at H
        exact absurd H (by simp)
  case rest =>
    clear HC3
    try clear c1
    try clear p2
    try clear c5
    try clear c5b0
    try clear c5b1
    try clear c6
    try clear c6b0
    try clear c6b1
    try clear hcv8
    try clear hcv9
    obtain ⟨kq, x24_2, rfl, HA, HJ2, HB⟩ := hcut
    cases kq with
    | zero => exact absurd HA.out (by simp [grommetref07_Split.j0])
    | succ kj2 =>
      have H := HA.out
      clear HA
      simp only [grommetref07_Split.j0] at H
      by_cases c10 : x24_2 = true
      · subst c10
        have H1 : (some (([] : List (S34)), 2, 0)) = some (r1, r2, r3) := by rw [if_pos rfl] at H; exact H
        clear H
        have H := H1
        clear H1
        simp only [Option.some.injEq, Prod.mk.injEq] at H
        obtain ⟨rfl, rfl, rfl⟩ := H
        go_wp2
        repeat (go_quiet (fail); try go_wp2)
        go_ret3
        exact ⟨_, by first | rfl | (simp [errW_none, errW_some] <;> rfl) | (simp [*, errW_none, errW_some] <;> rfl), by first | exact Kd.S_nil _ _ _ _ _ | exact Kd.N_nil _ _ _ _ _ | exact Kd.V_nil _ _ _ _ _ | exact Kd.Q_nil _ _ _ _ _ | exact Kd.R_nil _ _ _ _ _, by repeat (first | (with_reducible first | exact HB.out | apply below_alloc | apply pw_below_drewN | apply below_drew1) | exact HB.out)⟩
      · replace c10 := Bool.eq_false_iff.mpr c10
        subst c10
        have H1 : (grommetref07_Split.l0 kj2 l0 ([] : List (S34)) 0 8) = some (r1, r2, r3) := by rw [if_neg (show ¬ (false = true) by decide)] at H; exact H
        clear H
        have H := H1
        clear H1
        have H' := Aside0.mk H
        clear H
        go_wp2
        repeat (go_quiet (fail); try go_wp2)
        go_loopg [6, 7, 8] kj2 (fun kq v6 v7 v8 w' => ∃ (x6_2 : List (S34)) (x7_2 : Int) (x8_2 : Int), v7 = .int .i64 x7_2 ∧ v8 = .int .i64 x8_2 ∧ Aside0 (grommetref07_Split.l0 kq l0 x6_2 x7_2 x8_2 = some (r1, r2, r3)) ∧ Aside0 (kq ≤ kj2) ∧ Aside0 (Kd.S k34 34 w' w.heap.size (fun _ => True) v6 x6_2) ∧ Aside0 (Below w.heap.size w w'))
        case atStart => exact ⟨(([] : List (S34))), (0), (8), (by first | rfl | (simp; done) | (simp [*]; done)), (by first | rfl | (simp; done) | (simp [*]; done)), H', ⟨Nat.le_refl _⟩, ⟨by first | exact Kd.S_nil _ _ _ _ _ | exact Kd.N_nil _ _ _ _ _ | exact Kd.V_nil _ _ _ _ _ | exact Kd.Q_nil _ _ _ _ _ | exact Kd.R_nil _ _ _ _ _⟩, ⟨by repeat (first | (with_reducible first | exact HB.out | apply below_alloc | apply pw_below_drewN | apply below_drew1) | exact HB.out)⟩⟩
        case round =>
          clear H'
          try clear c1
          try clear p2
          try clear c5
          try clear c5b0
          try clear c5b1
          try clear c6
          try clear c6b0
          try clear c6b1
          try clear hcv8
          try clear hcv9
          try clear c10
          try clear p2
          obtain ⟨x6_2, x7_2, x8_2, rfl, rfl, HA, HK2, HO_6, HB⟩ := hrel
          cases gk with
          | zero => exact absurd HA.out (by simp [grommetref07_Split.l0])
          | succ k2 =>
            have H := HA.out
            clear HA
            simp only [grommetref07_Split.l0] at H
            by_cases c11 : x8_2 < (l0.length : Int)
            · rw [if_pos c11] at H
              have c11b0 : decide (x8_2 < (l0.length : Int)) = true := decide_eq_true c11
              clear c11
              by_cases c12 : 0 ≤ x8_2
              · rw [if_pos c12] at H
                have c12b0 : decide (0 ≤ x8_2) = true := decide_eq_true c12
                clear c12
                have HC13 := Aside0.mk H
                clear H
                have p176 : 0 ≤ (x8_2 : Int) := of_decide_eq_true (by first | (with_reducible assumption) | assumption)
                have q176 : x8_2 < (l0.length : Int) := of_decide_eq_true (by first | (with_reducible assumption) | assumption)
                obtain ⟨ad176, e176, hx176_0⟩ := Kd.at_int HR0.out x8_2 p176 q176
                cases e176
                replace hx176_0 := (HB.out.cell (World.block_lt_of_cell? w _ hx176_0)).trans hx176_0
                replace p176 := eq_true p176
                replace q176 := eq_true q176
                go_upto_region 9 with (fail)
                repeat (go_quiet (fail); go_upto_region 9 with (fail))
                go_cut [44] (fun v44 wc => ∃ (kq : Nat) (x44_12 : Bool), v44 = .bool x44_12 ∧ Aside0 (grommetref07_Split.j2 kq l0 x6_2 x7_2 x8_2 (wrap64 (rd l0 x8_2)) x44_12 = some (r1, r2, r3)) ∧ Aside0 (kq ≤ k2) ∧ Aside0 (Kd.S k34 34 wc w.heap.size (fun _ => True) u6 x6_2) ∧ Aside0 (Below w.heap.size w wc))
                case first =>
                  have H := HC13.out
                  clear HC13
                  by_cases c14 : (wrap64 (rd l0 x8_2)) > 11
                  · rw [if_pos c14] at H
                    have c14b0 : decide (11 < (wrap64 (rd l0 x8_2))) = true := decide_eq_true c14
                    clear c14
                    (first | rw [c14b0] | (simp only [i64_w, i32_w]; rw [c14b0]) | skip)
                    have H' := Aside0.mk H
                    clear H
                    go_wp2
                    repeat (go_quiet (fail); try go_wp2)
                    go_meet
                    case rel => exact ⟨_, (true), (by first | rfl | (simp; done) | (simp [*]; done)), H', ⟨by have := HJ2.out; have := HK2.out; first | omega | exact Nat.le_refl _⟩, ⟨by (with_reducible repeat (first | apply Kd.S_alloc | apply Kd.S_drewN | apply Kd.S_drew)); exact HO_6.out⟩, ⟨by repeat (first | (with_reducible first | exact HB.out | apply below_alloc | apply pw_below_drewN | apply below_drew1) | exact HB.out)⟩⟩
                  · rw [if_neg c14] at H
                    have c14b0 : decide (11 < (wrap64 (rd l0 x8_2))) = false := decide_eq_false c14
                    clear c14
                    (first | rw [c14b0] | (simp only [i64_w, i32_w]; rw [c14b0]) | skip)
                    by_cases c15 : (wrap64 (rd l0 x8_2)) = 0
                    · rw [if_pos c15] at H
                      have c15b0 : ((wrap64 (rd l0 x8_2)) == 0) = true := beq_iff_eq.mpr c15
                      have c15b1 : ((wrap64 (rd l0 x8_2)) != 0) = false := bne_eq_false_iff_eq.mpr c15
                      clear c15
                      have H' := Aside0.mk H
                      clear H
                      go_wp2
                      repeat (go_quiet (fail); try go_wp2)
                      go_meet
                      case rel => exact ⟨_, (false), (by first | rfl | (simp; done) | (simp [*]; done)), H', ⟨by have := HJ2.out; have := HK2.out; first | omega | exact Nat.le_refl _⟩, ⟨by (with_reducible repeat (first | apply Kd.S_alloc | apply Kd.S_drewN | apply Kd.S_drew)); exact HO_6.out⟩, ⟨by repeat (first | (with_reducible first | exact HB.out | apply below_alloc | apply pw_below_drewN | apply below_drew1) | exact HB.out)⟩⟩
                    · rw [if_neg c15] at H
                      have c15b0 : ((wrap64 (rd l0 x8_2)) == 0) = false := beq_eq_false_iff_ne.mpr c15
                      have c15b1 : ((wrap64 (rd l0 x8_2)) != 0) = true := bne_iff_ne.mpr c15
                      have H' := Aside0.mk H
                      clear H
                      go_wp2
                      repeat (go_quiet (fail); try go_wp2)
                      go_meet
                      case rel => exact ⟨_, (decide ((wrap64 (rd l0 x8_2)) ≤ x7_2)), (by first | rfl | (simp; done) | (simp [*]; done)), H', ⟨by have := HJ2.out; have := HK2.out; first | omega | exact Nat.le_refl _⟩, ⟨by (with_reducible repeat (first | apply Kd.S_alloc | apply Kd.S_drewN | apply Kd.S_drew)); exact HO_6.out⟩, ⟨by repeat (first | (with_reducible first | exact HB.out | apply below_alloc | apply pw_below_drewN | apply below_drew1) | exact HB.out)⟩⟩
                case rest =>
                  clear HC13
                  try clear c1
                  try clear p1
                  try clear q1
                  try clear hx1
                  try clear p2
                  try clear c5
                  try clear c5b0
                  try clear c5b1
                  try clear c6
                  try clear c6b0
                  try clear c6b1
                  try clear p6
                  try clear hcv8
                  try clear hcv9
                  try clear c10
                  try clear c11
                  try clear c11b0
                  try clear c12
                  try clear c12b0
                  try clear c14
                  try clear c14b0
                  try clear c15
                  try clear c15b0
                  try clear c15b1
                  try clear hx176_0
                  try clear p176
                  try clear p2
                  try clear q176
                  obtain ⟨kq, x44_12, rfl, HA, HJ12, HO_6, HB⟩ := hcut
                  cases kq with
                  | zero => exact absurd HA.out (by simp [grommetref07_Split.j2])
                  | succ kj12 =>
                    have H := HA.out
                    clear HA
                    simp only [grommetref07_Split.j2] at H
                    by_cases c16 : x44_12 = true
                    · subst c16
                      have H1 : (some (([] : List (S34)), 2, x8_2)) = some (r1, r2, r3) := by rw [if_pos rfl] at H; exact H
                      clear H
                      have H := H1
                      clear H1
                      simp only [Option.some.injEq, Prod.mk.injEq] at H
                      obtain ⟨rfl, rfl, rfl⟩ := H
                      go_wp2
                      repeat (go_quiet (fail); try go_wp2)
                      go_ret3
                      exact ⟨_, by first | rfl | (simp [errW_none, errW_some] <;> rfl) | (simp [*, errW_none, errW_some] <;> rfl), by first | exact Kd.S_nil _ _ _ _ _ | exact Kd.N_nil _ _ _ _ _ | exact Kd.V_nil _ _ _ _ _ | exact Kd.Q_nil _ _ _ _ _ | exact Kd.R_nil _ _ _ _ _, by repeat (first | (with_reducible first | exact HB.out | apply below_alloc | apply pw_below_drewN | apply below_drew1) | exact HB.out)⟩
                    · replace c16 := Bool.eq_false_iff.mpr c16
                      subst c16
                      have H1 : (if (x6_2.length : Int) ≥ 128 then (some (([] : List (S34)), 7, x8_2)) else (if (wrap64 (rd l0 x8_2)) = 0 then ((grommetref01_Read.f kj12 l0 (wrap64 (x8_2 + 1)) 32 false).bind fun bt177 => (if bt177.2.2 = true then (if bt177.1 > (IntKind.u64.wrap (wrap64 ((l0.length : Int) - bt177.2.1))) then (some (([] : List (S34)), 2, wrap64 (x8_2 + 1))) else ((some (([] : List Int) : List Int)).bind fun y180 => (if 0 ≤ bt177.2.1 then (if bt177.2.1 ≤ (wrap64 (bt177.2.1 + (wrap64 (bt177.1)))) then (if (wrap64 (bt177.2.1 + (wrap64 (bt177.1)))) ≤ (l0.length : Int) then (if y180.length + ((l0.take ((wrap64 (bt177.2.1 + (wrap64 (bt177.1)))) : Int).toNat).drop (bt177.2.1 : Int).toNat).length < 140737488355328 then (if x6_2.length < 3518437208883 then (grommetref07_Split.l0 kj12 l0 (x6_2 ++ [(⟨(wrap64 (rd l0 x8_2)), bt177.2.1, (y180 ++ ((l0.take ((wrap64 (bt177.2.1 + (wrap64 (bt177.1)))) : Int).toNat).drop (bt177.2.1 : Int).toNat))⟩ : S34)]) x7_2 (wrap64 (bt177.2.1 + (wrap64 (bt177.1))))) else (none)) else (none)) else (none)) else (none)) else (none)))) else (some (([] : List (S34)), 2, wrap64 (x8_2 + 1))))) else ((grommetref01_Read.f kj12 l0 (wrap64 (x8_2 + 1)) 32 false).bind fun bt190 => (if bt190.2.2 = true then (if bt190.1 > (IntKind.u64.wrap (wrap64 ((l0.length : Int) - bt190.2.1))) then (some (([] : List (S34)), 2, wrap64 (x8_2 + 1))) else ((some (([] : List Int) : List Int)).bind fun y193 => (if 0 ≤ bt190.2.1 then (if bt190.2.1 ≤ (wrap64 (bt190.2.1 + (wrap64 (bt190.1)))) then (if (wrap64 (bt190.2.1 + (wrap64 (bt190.1)))) ≤ (l0.length : Int) then (if y193.length + ((l0.take ((wrap64 (bt190.2.1 + (wrap64 (bt190.1)))) : Int).toNat).drop (bt190.2.1 : Int).toNat).length < 140737488355328 then (if x6_2.length < 3518437208883 then (grommetref07_Split.l0 kj12 l0 (x6_2 ++ [(⟨(wrap64 (rd l0 x8_2)), bt190.2.1, (y193 ++ ((l0.take ((wrap64 (bt190.2.1 + (wrap64 (bt190.1)))) : Int).toNat).drop (bt190.2.1 : Int).toNat))⟩ : S34)]) (wrap64 (rd l0 x8_2)) (wrap64 (bt190.2.1 + (wrap64 (bt190.1))))) else (none)) else (none)) else (none)) else (none)) else (none)))) else (some (([] : List (S34)), 2, wrap64 (x8_2 + 1))))))) = some (r1, r2, r3) := by rw [if_neg (show ¬ (false = true) by decide)] at H; exact H
                      clear H
                      have H := H1
                      clear H1
                      by_cases c17 : (x6_2.length : Int) ≥ 128
                      · rw [if_pos c17] at H
                        have c17b0 : decide (128 ≤ (x6_2.length : Int)) = true := decide_eq_true c17
                        have c17b1 : decide (128 ≤ x6_2.length) = true := decide_eq_true (by omega)
                        clear c17
                        simp only [Option.some.injEq, Prod.mk.injEq] at H
                        obtain ⟨rfl, rfl, rfl⟩ := H
                        obtain ⟨Ao18, co18, eo18⟩ := Kd.S_slice HO_6.out
                        subst eo18
                        go_wp2
                        repeat (go_quiet (fail); try go_wp2)
                        go_ret3
                        exact ⟨_, by first | rfl | (simp [errW_none, errW_some] <;> rfl) | (simp [*, errW_none, errW_some] <;> rfl), by first | exact Kd.S_nil _ _ _ _ _ | exact Kd.N_nil _ _ _ _ _ | exact Kd.V_nil _ _ _ _ _ | exact Kd.Q_nil _ _ _ _ _ | exact Kd.R_nil _ _ _ _ _, by repeat (first | (with_reducible first | exact HB.out | apply below_alloc | apply pw_below_drewN | apply below_drew1) | exact HB.out)⟩
                      · rw [if_neg c17] at H
                        have c17b0 : decide (128 ≤ (x6_2.length : Int)) = false := decide_eq_false c17
                        have c17b1 : decide (128 ≤ x6_2.length) = false := decide_eq_false (by omega)
                        clear c17
                        by_cases c19 : (wrap64 (rd l0 x8_2)) = 0
                        · rw [if_pos c19] at H
                          have c19b0 : ((wrap64 (rd l0 x8_2)) == 0) = true := beq_iff_eq.mpr c19
                          have c19b1 : ((wrap64 (rd l0 x8_2)) != 0) = false := bne_eq_false_iff_eq.mpr c19
                          clear c19
                          replace H := Option.bind_eq_some_iff.mp H
                          obtain ⟨⟨t177, t178, t179⟩, A200, H⟩ := H
                          replace H : (if t179 = true then (if t177 > (IntKind.u64.wrap (wrap64 ((l0.length : Int) - t178))) then (some (([] : List (S34)), 2, wrap64 (x8_2 + 1))) else ((some (([] : List Int) : List Int)).bind fun y180 => (if 0 ≤ t178 then (if t178 ≤ (wrap64 (t178 + (wrap64 (t177)))) then (if (wrap64 (t178 + (wrap64 (t177)))) ≤ (l0.length : Int) then (if y180.length + ((l0.take ((wrap64 (t178 + (wrap64 (t177)))) : Int).toNat).drop (t178 : Int).toNat).length < 140737488355328 then (if x6_2.length < 3518437208883 then (grommetref07_Split.l0 kj12 l0 (x6_2 ++ [(⟨(wrap64 (rd l0 x8_2)), t178, (y180 ++ ((l0.take ((wrap64 (t178 + (wrap64 (t177)))) : Int).toNat).drop (t178 : Int).toNat))⟩ : S34)]) x7_2 (wrap64 (t178 + (wrap64 (t177))))) else (none)) else (none)) else (none)) else (none)) else (none)))) else (some (([] : List (S34)), 2, wrap64 (x8_2 + 1)))) = some (r1, r2, r3) := H
                          have A20 := Aside0.mk A200
                          clear A200
                          by_cases c21 : t179 = true
                          · subst c21
                            have H1 : (if t177 > (IntKind.u64.wrap (wrap64 ((l0.length : Int) - t178))) then (some (([] : List (S34)), 2, wrap64 (x8_2 + 1))) else ((some (([] : List Int) : List Int)).bind fun y180 => (if 0 ≤ t178 then (if t178 ≤ (wrap64 (t178 + (wrap64 (t177)))) then (if (wrap64 (t178 + (wrap64 (t177)))) ≤ (l0.length : Int) then (if y180.length + ((l0.take ((wrap64 (t178 + (wrap64 (t177)))) : Int).toNat).drop (t178 : Int).toNat).length < 140737488355328 then (if x6_2.length < 3518437208883 then (grommetref07_Split.l0 kj12 l0 (x6_2 ++ [(⟨(wrap64 (rd l0 x8_2)), t178, (y180 ++ ((l0.take ((wrap64 (t178 + (wrap64 (t177)))) : Int).toNat).drop (t178 : Int).toNat))⟩ : S34)]) x7_2 (wrap64 (t178 + (wrap64 (t177))))) else (none)) else (none)) else (none)) else (none)) else (none)))) = some (r1, r2, r3) := by rw [if_pos rfl] at H; exact H
                            clear H
                            have H := H1
                            clear H1
                            by_cases c22 : t177 > (IntKind.u64.wrap (wrap64 ((l0.length : Int) - t178)))
                            · rw [if_pos c22] at H
                              have c22b0 : decide ((IntKind.u64.wrap (wrap64 ((l0.length : Int) - t178))) < t177) = true := decide_eq_true c22
                              clear c22
                              simp only [Option.some.injEq, Prod.mk.injEq] at H
                              obtain ⟨rfl, rfl, rfl⟩ := H
                              obtain ⟨Ao23, co23, eo23⟩ := Kd.S_slice HO_6.out
                              subst eo23
                              go_wp2_with (first | (go_at_call 21; (with_reducible refine (grommetref01_Read.calls kj12 _ _ l0 (wrap64 (x8_2 + 1)) 32 false t177 t178 true _ ?side1 ?side2 A20.out).mono ?_); (case side1 => repeat (first | exact (Kd.C_below HR0.out HB.out) | (with_reducible refine Kd.C_alloc ?_ _) | (with_reducible refine Kd.C_drewN ?_ _) | (with_reducible refine Kd.C_drew ?_))); (case side2 => exact HC0.out); rintro e w24 ⟨rfl, hb⟩; have n0_ := Aside0.mk (Kd.S_below (by (with_reducible repeat (first | apply Kd.S_alloc | apply Kd.S_drewN | apply Kd.S_drew)); exact HO_6.out) hb); have n1_ := Aside0.mk (below_step (by repeat (first | (with_reducible first | exact HB.out | apply below_alloc | apply pw_below_drewN | apply below_drew1) | exact HB.out)) hb); clear HO_6; clear HB; have HO_6 := n0_; have HB := n1_; clear n0_ n1_; (try clear hb); (try clear hb2); (try clear hk); (try clear hi)))
                              repeat (go_quiet (first | (go_at_call 21; (with_reducible refine (grommetref01_Read.calls kj12 _ _ l0 (wrap64 (x8_2 + 1)) 32 false t177 t178 true _ ?side1 ?side2 A20.out).mono ?_); (case side1 => repeat (first | exact (Kd.C_below HR0.out HB.out) | (with_reducible refine Kd.C_alloc ?_ _) | (with_reducible refine Kd.C_drewN ?_ _) | (with_reducible refine Kd.C_drew ?_))); (case side2 => exact HC0.out); rintro e w24 ⟨rfl, hb⟩; have n0_ := Aside0.mk (Kd.S_below (by (with_reducible repeat (first | apply Kd.S_alloc | apply Kd.S_drewN | apply Kd.S_drew)); exact HO_6.out) hb); have n1_ := Aside0.mk (below_step (by repeat (first | (with_reducible first | exact HB.out | apply below_alloc | apply pw_below_drewN | apply below_drew1) | exact HB.out)) hb); clear HO_6; clear HB; have HO_6 := n0_; have HB := n1_; clear n0_ n1_; (try clear hb); (try clear hb2); (try clear hk); (try clear hi))); try go_wp2_with (first | (go_at_call 21; (with_reducible refine (grommetref01_Read.calls kj12 _ _ l0 (wrap64 (x8_2 + 1)) 32 false t177 t178 true _ ?side1 ?side2 A20.out).mono ?_); (case side1 => repeat (first | exact (Kd.C_below HR0.out HB.out) | (with_reducible refine Kd.C_alloc ?_ _) | (with_reducible refine Kd.C_drewN ?_ _) | (with_reducible refine Kd.C_drew ?_))); (case side2 => exact HC0.out); rintro e w24 ⟨rfl, hb⟩; have n0_ := Aside0.mk (Kd.S_below (by (with_reducible repeat (first | apply Kd.S_alloc | apply Kd.S_drewN | apply Kd.S_drew)); exact HO_6.out) hb); have n1_ := Aside0.mk (below_step (by repeat (first | (with_reducible first | exact HB.out | apply below_alloc | apply pw_below_drewN | apply below_drew1) | exact HB.out)) hb); clear HO_6; clear HB; have HO_6 := n0_; have HB := n1_; clear n0_ n1_; (try clear hb); (try clear hb2); (try clear hk); (try clear hi))))
                              go_ret3
                              exact ⟨_, by first | rfl | (simp [errW_none, errW_some] <;> rfl) | (simp [*, errW_none, errW_some] <;> rfl), by first | exact Kd.S_nil _ _ _ _ _ | exact Kd.N_nil _ _ _ _ _ | exact Kd.V_nil _ _ _ _ _ | exact Kd.Q_nil _ _ _ _ _ | exact Kd.R_nil _ _ _ _ _, by repeat (first | (with_reducible first | exact HB.out | apply below_alloc | apply pw_below_drewN | apply below_drew1) | exact HB.out)⟩
                            · rw [if_neg c22] at H
                              have c22b0 : decide ((IntKind.u64.wrap (wrap64 ((l0.length : Int) - t178))) < t177) = false := decide_eq_false c22
                              clear c22
                              obtain ⟨y180, hy180⟩ : ∃ y_ : List Int, y_ = (([] : List Int)) := ⟨_, rfl⟩
                              replace H : (if 0 ≤ t178 then (if t178 ≤ (wrap64 (t178 + (wrap64 (t177)))) then (if (wrap64 (t178 + (wrap64 (t177)))) ≤ (l0.length : Int) then (if y180.length + ((l0.take ((wrap64 (t178 + (wrap64 (t177)))) : Int).toNat).drop (t178 : Int).toNat).length < 140737488355328 then (if x6_2.length < 3518437208883 then (grommetref07_Split.l0 kj12 l0 (x6_2 ++ [(⟨(wrap64 (rd l0 x8_2)), t178, (y180 ++ ((l0.take ((wrap64 (t178 + (wrap64 (t177)))) : Int).toNat).drop (t178 : Int).toNat))⟩ : S34)]) x7_2 (wrap64 (t178 + (wrap64 (t177))))) else (none)) else (none)) else (none)) else (none)) else (none)) = some (r1, r2, r3) := by first | (rw [hy180]; with_reducible exact H) | (have H2_ := (Option.bind_some _ _).symm.trans H; rw [hy180]; with_reducible exact H2_) | (have H2_ := (Option.bind_some _ _).symm.trans H; with_reducible exact H2_) | with_reducible exact H | (rw [hy180]; exact H) | exact H
                              have Ny180 := Aside0.mk hy180
                              clear hy180
                              by_cases c25 : 0 ≤ t178
                              · rw [if_pos c25] at H
                                have c25b0 := eq_true c25
                                have c25b1 : decide (0 ≤ t178) = true := decide_eq_true c25
                                clear c25
                                by_cases c26 : t178 ≤ (wrap64 (t178 + (wrap64 (t177))))
                                · rw [if_pos c26] at H
                                  have c26b0 := eq_true c26
                                  have c26b1 : decide (t178 ≤ (wrap64 (t178 + (wrap64 (t177))))) = true := decide_eq_true c26
                                  by_cases c27 : (wrap64 (t178 + (wrap64 (t177)))) ≤ (l0.length : Int)
                                  · rw [if_pos c27] at H
                                    have c27b0 := eq_true c27
                                    have c27b1 : decide ((wrap64 (t178 + (wrap64 (t177)))) ≤ (l0.length : Int)) = true := decide_eq_true c27
                                    by_cases c28 : y180.length + ((l0.take ((wrap64 (t178 + (wrap64 (t177)))) : Int).toNat).drop (t178 : Int).toNat).length < 140737488355328
                                    · rw [if_pos c28] at H
                                      have LMc28 := Aside0.mk c28
                                      clear c28
                                      obtain ⟨y184, hy184⟩ : ∃ y_ : List Int, y_ = (y180 ++ ((l0.take ((wrap64 (t178 + (wrap64 (t177)))) : Int).toNat).drop (t178 : Int).toNat)) := ⟨_, rfl⟩
                                      replace H : (if x6_2.length < 3518437208883 then (grommetref07_Split.l0 kj12 l0 (x6_2 ++ [(⟨(wrap64 (rd l0 x8_2)), t178, y184⟩ : S34)]) x7_2 (wrap64 (t178 + (wrap64 (t177))))) else (none)) = some (r1, r2, r3) := by first | (rw [hy184]; with_reducible exact H) | (have H2_ := (Option.bind_some _ _).symm.trans H; rw [hy184]; with_reducible exact H2_) | (have H2_ := (Option.bind_some _ _).symm.trans H; with_reducible exact H2_) | with_reducible exact H | (rw [hy184]; exact H) | exact H
                                      have Ny184 := Aside0.mk hy184
                                      clear hy184
                                      by_cases c29 : x6_2.length < 3518437208883
                                      · rw [if_pos c29] at H
                                        have LMc29 := Aside0.mk c29
                                        clear c29
                                        obtain ⟨y187, hy187⟩ : ∃ y_ : List (S34), y_ = (x6_2 ++ [(⟨(wrap64 (rd l0 x8_2)), t178, y184⟩ : S34)]) := ⟨_, rfl⟩
                                        replace H : (grommetref07_Split.l0 kj12 l0 y187 x7_2 (wrap64 (t178 + (wrap64 (t177))))) = some (r1, r2, r3) := by first | (rw [hy187]; with_reducible exact H) | (have H2_ := (Option.bind_some _ _).symm.trans H; rw [hy187]; with_reducible exact H2_) | (have H2_ := (Option.bind_some _ _).symm.trans H; with_reducible exact H2_) | with_reducible exact H | (rw [hy187]; exact H) | exact H
                                        have Ny187 := Aside0.mk hy187
                                        clear hy187
                                        have H' := Aside0.mk H
                                        clear H
                                        obtain ⟨Ao30, co30, eo30⟩ := Kd.S_slice HO_6.out
                                        subst eo30
                                        go_wp2_with (first | (go_at_call 21; (with_reducible refine (grommetref01_Read.calls kj12 _ _ l0 (wrap64 (x8_2 + 1)) 32 false t177 t178 true _ ?side1 ?side2 A20.out).mono ?_); (case side1 => repeat (first | exact (Kd.C_below HR0.out HB.out) | (with_reducible refine Kd.C_alloc ?_ _) | (with_reducible refine Kd.C_drewN ?_ _) | (with_reducible refine Kd.C_drew ?_))); (case side2 => exact HC0.out); rintro e w31 ⟨rfl, hb⟩; have n0_ := Aside0.mk (Kd.S_below (by (with_reducible repeat (first | apply Kd.S_alloc | apply Kd.S_drewN | apply Kd.S_drew)); exact HO_6.out) hb); have n1_ := Aside0.mk (below_step (by repeat (first | (with_reducible first | exact HB.out | apply below_alloc | apply pw_below_drewN | apply below_drew1) | exact HB.out)) hb); clear HO_6; clear HB; have HO_6 := n0_; have HB := n1_; clear n0_ n1_; (try clear hb); (try clear hb2); (try clear hk); (try clear hi)) | ((with_reducible refine gate_dst (N := 77) rfl ?_); (try (refine gate_guard (by rfl) ?_; dsimp only)); refine Kd.R_lit (Kd.int .u8) _ 5 ?hg (N := 77) ?hd (xs := ([] : List Int)) (inner := []) (ok := fun _ => True) (okp := fun _ => True) ?hr ?hp (fun _ hk => hk) trivial (Below.refl _ _) (Nat.le_refl _) (by simp) ?_; (case hd => rfl); (case hg => rfl); (case hr => first | (go_simp; done) | (go_simp; rfl)); (case hp => exact (Reps.none _ _)); intro v181 w32 ho33 hb hg_ hnew_; clear hg_ hnew_; (first | rw [← Ny180.out] at ho33 | (simp only [Int.reduceToNat] at ho33; rw [← Ny180.out] at ho33)); have n0_ := Aside0.mk (Kd.S_elder' (by (with_reducible repeat (first | apply Kd.S_alloc | apply Kd.S_drewN | apply Kd.S_drew)); exact HO_6.out) (Kd.R_base ho33) hb); have n1_ := Aside0.mk (Kd.R_lower ho33 (below_size (by repeat (first | (with_reducible first | exact HB.out | apply below_alloc | apply pw_below_drewN | apply below_drew1) | exact HB.out)))); have n2_ := Aside0.mk (below_step (by repeat (first | (with_reducible first | exact HB.out | apply below_alloc | apply pw_below_drewN | apply below_drew1) | exact HB.out)) hb); clear HO_6; clear HB; have HO_6 := n0_; have HO182 := n1_; have HB := n2_; clear n0_ n1_ n2_; clear hb ho33; obtain ⟨i034, hi034, _, hsz34, _⟩ := info_parts info5; obtain ⟨A34, hcut34, hA34, hC34⟩ := print_mid_of (P := Tryd.prog) (Value.int .u8) 0 22 5 .i64 .i64 Tryd.underlying22 hi034 hsz34 (some ad176) c0 l0 t178 (wrap64 (t178 + (wrap64 (t177)))) (of_decide_eq_true (by first | (with_reducible assumption) | assumption)) (by first | omega | exact of_decide_eq_true (by first | (with_reducible assumption) | assumption)) (of_decide_eq_true (by first | (with_reducible assumption) | assumption)) HC0.out; have HR183 := Aside0.mk (Kd.C_of_reads (h1 := fun _ => rfl) (hA34 _ (Kd.reads_of_C HR0.out))); have HC183 := Aside0.mk hC34; clear hA34 hC34 hi034 hsz34) | ((with_reducible refine gate_builtin (b := .append) (xs := #[.tmp 77, .tmp 84]) rfl ?_); (try (refine gate_guard (by rfl) ?_; dsimp only)); at_builtin; refine Kd.R_append_rows (Kd.int .u8) (w0 := w) w.heap.size rfl (.tmp 77) (.tmp 84) 22 5 (.int .u8 0) 1 rfl Tryd.underlying22 info5 rfl (by decide) (by omega) v181 y180 ((l0.take ((wrap64 (t178 + (wrap64 (t177)))) : Int).toNat).drop (t178 : Int).toNat) _ _ _ (fun _ => True) (fun _ => False) rfl rfl ?aO ?aR (fun _ _ h => h) (fun _ h => h.elim) ?aF ?aB ?aS ?aL ?_; (case aR => first | (rw [← show ((l0.take ((wrap64 (t178 + (wrap64 (t177)))) : Int).toNat).drop (t178 : Int).toNat).length = ((wrap64 (t178 + (wrap64 (t177)))).toNat - t178.toNat) from (by rw [List.length_drop, List.length_take]; have h_ : ((wrap64 (t178 + (wrap64 (t177)))) : Int) ≤ (l0.length : Int) := of_decide_eq_true (by first | (with_reducible assumption) | assumption); omega)]; repeat (first | exact (Kd.C_below HR183.out HB.out) | (with_reducible refine Kd.C_alloc ?_ _) | (with_reducible refine Kd.C_drewN ?_ _) | (with_reducible refine Kd.C_drew ?_))) | (repeat (first | exact (Kd.C_below HR183.out HB.out) | (with_reducible refine Kd.C_alloc ?_ _) | (with_reducible refine Kd.C_drewN ?_ _) | (with_reducible refine Kd.C_drew ?_)))); (case aB => exact (by repeat (first | (with_reducible first | exact HB.out | apply below_alloc | apply pw_below_drewN | apply below_drew1) | exact HB.out))); (case aF => exact (fun _ _ => trivial)); (case aO => exact (by (with_reducible repeat (first | apply Kd.R_alloc | apply Kd.R_drewN | apply Kd.R_drew)); exact HO182.out)); (case aS => exact (below_size (by repeat (first | (with_reducible first | exact HB.out | apply below_alloc | apply pw_below_drewN | apply below_drew1) | exact HB.out)))); (case aL => have := LMc28.out; have hlx_ := (show ((l0.take ((wrap64 (t178 + (wrap64 (t177)))) : Int).toNat).drop (t178 : Int).toNat).length = ((wrap64 (t178 + (wrap64 (t177)))).toNat - t178.toNat) from (by rw [List.length_drop, List.length_take]; have h_ : ((wrap64 (t178 + (wrap64 (t177)))) : Int) ≤ (l0.length : Int) := of_decide_eq_true (by first | (with_reducible assumption) | assumption); omega)); omega); intro v185 w35 ho hb hg hat; rw [← Ny184.out] at ho; have n0_ := Aside0.mk (Kd.S_after (ok := (fun _ => True)) (by (with_reducible repeat (first | apply Kd.S_alloc | apply Kd.S_drewN | apply Kd.S_drew)); exact HO_6.out) hg hat); have n1_ := Aside0.mk (hb); have n2_ := Aside0.mk (ho); clear HO_6; clear HB; clear HO182; have HO_6 := n0_; have HB := n1_; have HO186 := n2_; clear n0_ n1_ n2_; clear ho hb hg hat; obtain ⟨Ao36, co36, eo36⟩ := Kd.R_slice HO186.out; subst eo36) | ((with_reducible refine gate_builtin (b := .append) (xs := #[.tmp 74, .tmp 87]) rfl ?_); (try (refine gate_guard (by rfl) ?_; dsimp only)); at_builtin; refine Kd.S_append k34 (w0 := w) w.heap.size rfl (.tmp 74) (.tmp 87) 24 34 (.agg #[(.int .i64 0), (.int .i64 0), (.slice none 0 0)]) 40 rfl Tryd.underlying24 info34 rfl (by decide) (by omega) (.slice Ao30 x6_2.length co30) x6_2 (⟨(wrap64 (rd l0 x8_2)), t178, y184⟩ : S34) [.int .i64 (wrap64 (rd l0 x8_2)), .int .i64 t178, .slice Ao36 y184.length co36] (fun _ => True) (fun k_ => some k_ = (.slice Ao36 y184.length co36 : Value).ownBlock) rfl rfl ?aP (fun k_ hk_ => ((Kd.R_mono (ok' := fun k_ => ((fun _ => True)) k_ ∧ some k_ ≠ (.slice Ao30 x6_2.length co30 : Value).ownBlock) (Kd.R_apart' (HO186.out) (Kd.S_typed HO_6.out) (by decide)) (fun k_ hk => ⟨trivial, hk.2⟩))).1 k_ hk_.symm) ?aF ?aO ?aB ?aS ?aL ?_; (case aP => exact k34_mkM _ _ _ (⟨(wrap64 (rd l0 x8_2)), t178, y184⟩ : S34) (Kd.R_mono (Kd.R_tight rfl (Kd.R_mono (ok' := fun k_ => ((fun _ => True)) k_ ∧ some k_ ≠ (.slice Ao30 x6_2.length co30 : Value).ownBlock) (Kd.R_apart' (HO186.out) (Kd.S_typed HO_6.out) (by decide)) (fun k_ hk => ⟨trivial, hk.2⟩))) (fun _ h_ => h_))); (case aB => exact (by repeat (first | (with_reducible first | exact HB.out | apply below_alloc | apply pw_below_drewN | apply below_drew1) | exact HB.out))); (case aF => exact (fun _ _ => trivial)); (case aO => exact (by (with_reducible repeat (first | apply Kd.S_alloc | apply Kd.S_drewN | apply Kd.S_drew)); exact Kd.S_mono HO_6.out (fun k_ hk => ⟨trivial, fun e_ => hk.2 e_⟩))); (case aS => exact (below_size (by repeat (first | (with_reducible first | exact HB.out | apply below_alloc | apply pw_below_drewN | apply below_drew1) | exact HB.out)))); (case aL => have := LMc29.out; omega); intro v188 w37 ho hb hg hat; rw [← Ny187.out] at ho; have n0_ := Aside0.mk (hb); have n1_ := Aside0.mk (ho); clear HB; clear HO_6; clear HO186; have HB := n0_; have HO189 := n1_; clear n0_ n1_; clear ho hb hg hat))
                                        repeat (go_quiet (first | (go_at_call 21; (with_reducible refine (grommetref01_Read.calls kj12 _ _ l0 (wrap64 (x8_2 + 1)) 32 false t177 t178 true _ ?side1 ?side2 A20.out).mono ?_); (case side1 => repeat (first | exact (Kd.C_below HR0.out HB.out) | (with_reducible refine Kd.C_alloc ?_ _) | (with_reducible refine Kd.C_drewN ?_ _) | (with_reducible refine Kd.C_drew ?_))); (case side2 => exact HC0.out); rintro e w31 ⟨rfl, hb⟩; have n0_ := Aside0.mk (Kd.S_below (by (with_reducible repeat (first | apply Kd.S_alloc | apply Kd.S_drewN | apply Kd.S_drew)); exact HO_6.out) hb); have n1_ := Aside0.mk (below_step (by repeat (first | (with_reducible first | exact HB.out | apply below_alloc | apply pw_below_drewN | apply below_drew1) | exact HB.out)) hb); clear HO_6; clear HB; have HO_6 := n0_; have HB := n1_; clear n0_ n1_; (try clear hb); (try clear hb2); (try clear hk); (try clear hi)) | ((with_reducible refine gate_dst (N := 77) rfl ?_); (try (refine gate_guard (by rfl) ?_; dsimp only)); refine Kd.R_lit (Kd.int .u8) _ 5 ?hg (N := 77) ?hd (xs := ([] : List Int)) (inner := []) (ok := fun _ => True) (okp := fun _ => True) ?hr ?hp (fun _ hk => hk) trivial (Below.refl _ _) (Nat.le_refl _) (by simp) ?_; (case hd => rfl); (case hg => rfl); (case hr => first | (go_simp; done) | (go_simp; rfl)); (case hp => exact (Reps.none _ _)); intro v181 w32 ho33 hb hg_ hnew_; clear hg_ hnew_; (first | rw [← Ny180.out] at ho33 | (simp only [Int.reduceToNat] at ho33; rw [← Ny180.out] at ho33)); have n0_ := Aside0.mk (Kd.S_elder' (by (with_reducible repeat (first | apply Kd.S_alloc | apply Kd.S_drewN | apply Kd.S_drew)); exact HO_6.out) (Kd.R_base ho33) hb); have n1_ := Aside0.mk (Kd.R_lower ho33 (below_size (by repeat (first | (with_reducible first | exact HB.out | apply below_alloc | apply pw_below_drewN | apply below_drew1) | exact HB.out)))); have n2_ := Aside0.mk (below_step (by repeat (first | (with_reducible first | exact HB.out | apply below_alloc | apply pw_below_drewN | apply below_drew1) | exact HB.out)) hb); clear HO_6; clear HB; have HO_6 := n0_; have HO182 := n1_; have HB := n2_; clear n0_ n1_ n2_; clear hb ho33; obtain ⟨i034, hi034, _, hsz34, _⟩ := info_parts info5; obtain ⟨A34, hcut34, hA34, hC34⟩ := print_mid_of (P := Tryd.prog) (Value.int .u8) 0 22 5 .i64 .i64 Tryd.underlying22 hi034 hsz34 (some ad176) c0 l0 t178 (wrap64 (t178 + (wrap64 (t177)))) (of_decide_eq_true (by first | (with_reducible assumption) | assumption)) (by first | omega | exact of_decide_eq_true (by first | (with_reducible assumption) | assumption)) (of_decide_eq_true (by first | (with_reducible assumption) | assumption)) HC0.out; have HR183 := Aside0.mk (Kd.C_of_reads (h1 := fun _ => rfl) (hA34 _ (Kd.reads_of_C HR0.out))); have HC183 := Aside0.mk hC34; clear hA34 hC34 hi034 hsz34) | ((with_reducible refine gate_builtin (b := .append) (xs := #[.tmp 77, .tmp 84]) rfl ?_); (try (refine gate_guard (by rfl) ?_; dsimp only)); at_builtin; refine Kd.R_append_rows (Kd.int .u8) (w0 := w) w.heap.size rfl (.tmp 77) (.tmp 84) 22 5 (.int .u8 0) 1 rfl Tryd.underlying22 info5 rfl (by decide) (by omega) v181 y180 ((l0.take ((wrap64 (t178 + (wrap64 (t177)))) : Int).toNat).drop (t178 : Int).toNat) _ _ _ (fun _ => True) (fun _ => False) rfl rfl ?aO ?aR (fun _ _ h => h) (fun _ h => h.elim) ?aF ?aB ?aS ?aL ?_; (case aR => first | (rw [← show ((l0.take ((wrap64 (t178 + (wrap64 (t177)))) : Int).toNat).drop (t178 : Int).toNat).length = ((wrap64 (t178 + (wrap64 (t177)))).toNat - t178.toNat) from (by rw [List.length_drop, List.length_take]; have h_ : ((wrap64 (t178 + (wrap64 (t177)))) : Int) ≤ (l0.length : Int) := of_decide_eq_true (by first | (with_reducible assumption) | assumption); omega)]; repeat (first | exact (Kd.C_below HR183.out HB.out) | (with_reducible refine Kd.C_alloc ?_ _) | (with_reducible refine Kd.C_drewN ?_ _) | (with_reducible refine Kd.C_drew ?_))) | (repeat (first | exact (Kd.C_below HR183.out HB.out) | (with_reducible refine Kd.C_alloc ?_ _) | (with_reducible refine Kd.C_drewN ?_ _) | (with_reducible refine Kd.C_drew ?_)))); (case aB => exact (by repeat (first | (with_reducible first | exact HB.out | apply below_alloc | apply pw_below_drewN | apply below_drew1) | exact HB.out))); (case aF => exact (fun _ _ => trivial)); (case aO => exact (by (with_reducible repeat (first | apply Kd.R_alloc | apply Kd.R_drewN | apply Kd.R_drew)); exact HO182.out)); (case aS => exact (below_size (by repeat (first | (with_reducible first | exact HB.out | apply below_alloc | apply pw_below_drewN | apply below_drew1) | exact HB.out)))); (case aL => have := LMc28.out; have hlx_ := (show ((l0.take ((wrap64 (t178 + (wrap64 (t177)))) : Int).toNat).drop (t178 : Int).toNat).length = ((wrap64 (t178 + (wrap64 (t177)))).toNat - t178.toNat) from (by rw [List.length_drop, List.length_take]; have h_ : ((wrap64 (t178 + (wrap64 (t177)))) : Int) ≤ (l0.length : Int) := of_decide_eq_true (by first | (with_reducible assumption) | assumption); omega)); omega); intro v185 w35 ho hb hg hat; rw [← Ny184.out] at ho; have n0_ := Aside0.mk (Kd.S_after (ok := (fun _ => True)) (by (with_reducible repeat (first | apply Kd.S_alloc | apply Kd.S_drewN | apply Kd.S_drew)); exact HO_6.out) hg hat); have n1_ := Aside0.mk (hb); have n2_ := Aside0.mk (ho); clear HO_6; clear HB; clear HO182; have HO_6 := n0_; have HB := n1_; have HO186 := n2_; clear n0_ n1_ n2_; clear ho hb hg hat; obtain ⟨Ao36, co36, eo36⟩ := Kd.R_slice HO186.out; subst eo36) | ((with_reducible refine gate_builtin (b := .append) (xs := #[.tmp 74, .tmp 87]) rfl ?_); (try (refine gate_guard (by rfl) ?_; dsimp only)); at_builtin; refine Kd.S_append k34 (w0 := w) w.heap.size rfl (.tmp 74) (.tmp 87) 24 34 (.agg #[(.int .i64 0), (.int .i64 0), (.slice none 0 0)]) 40 rfl Tryd.underlying24 info34 rfl (by decide) (by omega) (.slice Ao30 x6_2.length co30) x6_2 (⟨(wrap64 (rd l0 x8_2)), t178, y184⟩ : S34) [.int .i64 (wrap64 (rd l0 x8_2)), .int .i64 t178, .slice Ao36 y184.length co36] (fun _ => True) (fun k_ => some k_ = (.slice Ao36 y184.length co36 : Value).ownBlock) rfl rfl ?aP (fun k_ hk_ => ((Kd.R_mono (ok' := fun k_ => ((fun _ => True)) k_ ∧ some k_ ≠ (.slice Ao30 x6_2.length co30 : Value).ownBlock) (Kd.R_apart' (HO186.out) (Kd.S_typed HO_6.out) (by decide)) (fun k_ hk => ⟨trivial, hk.2⟩))).1 k_ hk_.symm) ?aF ?aO ?aB ?aS ?aL ?_; (case aP => exact k34_mkM _ _ _ (⟨(wrap64 (rd l0 x8_2)), t178, y184⟩ : S34) (Kd.R_mono (Kd.R_tight rfl (Kd.R_mono (ok' := fun k_ => ((fun _ => True)) k_ ∧ some k_ ≠ (.slice Ao30 x6_2.length co30 : Value).ownBlock) (Kd.R_apart' (HO186.out) (Kd.S_typed HO_6.out) (by decide)) (fun k_ hk => ⟨trivial, hk.2⟩))) (fun _ h_ => h_))); (case aB => exact (by repeat (first | (with_reducible first | exact HB.out | apply below_alloc | apply pw_below_drewN | apply below_drew1) | exact HB.out))); (case aF => exact (fun _ _ => trivial)); (case aO => exact (by (with_reducible repeat (first | apply Kd.S_alloc | apply Kd.S_drewN | apply Kd.S_drew)); exact Kd.S_mono HO_6.out (fun k_ hk => ⟨trivial, fun e_ => hk.2 e_⟩))); (case aS => exact (below_size (by repeat (first | (with_reducible first | exact HB.out | apply below_alloc | apply pw_below_drewN | apply below_drew1) | exact HB.out)))); (case aL => have := LMc29.out; omega); intro v188 w37 ho hb hg hat; rw [← Ny187.out] at ho; have n0_ := Aside0.mk (hb); have n1_ := Aside0.mk (ho); clear HB; clear HO_6; clear HO186; have HB := n0_; have HO189 := n1_; clear n0_ n1_; clear ho hb hg hat)); try go_wp2_with (first | (go_at_call 21; (with_reducible refine (grommetref01_Read.calls kj12 _ _ l0 (wrap64 (x8_2 + 1)) 32 false t177 t178 true _ ?side1 ?side2 A20.out).mono ?_); (case side1 => repeat (first | exact (Kd.C_below HR0.out HB.out) | (with_reducible refine Kd.C_alloc ?_ _) | (with_reducible refine Kd.C_drewN ?_ _) | (with_reducible refine Kd.C_drew ?_))); (case side2 => exact HC0.out); rintro e w31 ⟨rfl, hb⟩; have n0_ := Aside0.mk (Kd.S_below (by (with_reducible repeat (first | apply Kd.S_alloc | apply Kd.S_drewN | apply Kd.S_drew)); exact HO_6.out) hb); have n1_ := Aside0.mk (below_step (by repeat (first | (with_reducible first | exact HB.out | apply below_alloc | apply pw_below_drewN | apply below_drew1) | exact HB.out)) hb); clear HO_6; clear HB; have HO_6 := n0_; have HB := n1_; clear n0_ n1_; (try clear hb); (try clear hb2); (try clear hk); (try clear hi)) | ((with_reducible refine gate_dst (N := 77) rfl ?_); (try (refine gate_guard (by rfl) ?_; dsimp only)); refine Kd.R_lit (Kd.int .u8) _ 5 ?hg (N := 77) ?hd (xs := ([] : List Int)) (inner := []) (ok := fun _ => True) (okp := fun _ => True) ?hr ?hp (fun _ hk => hk) trivial (Below.refl _ _) (Nat.le_refl _) (by simp) ?_; (case hd => rfl); (case hg => rfl); (case hr => first | (go_simp; done) | (go_simp; rfl)); (case hp => exact (Reps.none _ _)); intro v181 w32 ho33 hb hg_ hnew_; clear hg_ hnew_; (first | rw [← Ny180.out] at ho33 | (simp only [Int.reduceToNat] at ho33; rw [← Ny180.out] at ho33)); have n0_ := Aside0.mk (Kd.S_elder' (by (with_reducible repeat (first | apply Kd.S_alloc | apply Kd.S_drewN | apply Kd.S_drew)); exact HO_6.out) (Kd.R_base ho33) hb); have n1_ := Aside0.mk (Kd.R_lower ho33 (below_size (by repeat (first | (with_reducible first | exact HB.out | apply below_alloc | apply pw_below_drewN | apply below_drew1) | exact HB.out)))); have n2_ := Aside0.mk (below_step (by repeat (first | (with_reducible first | exact HB.out | apply below_alloc | apply pw_below_drewN | apply below_drew1) | exact HB.out)) hb); clear HO_6; clear HB; have HO_6 := n0_; have HO182 := n1_; have HB := n2_; clear n0_ n1_ n2_; clear hb ho33; obtain ⟨i034, hi034, _, hsz34, _⟩ := info_parts info5; obtain ⟨A34, hcut34, hA34, hC34⟩ := print_mid_of (P := Tryd.prog) (Value.int .u8) 0 22 5 .i64 .i64 Tryd.underlying22 hi034 hsz34 (some ad176) c0 l0 t178 (wrap64 (t178 + (wrap64 (t177)))) (of_decide_eq_true (by first | (with_reducible assumption) | assumption)) (by first | omega | exact of_decide_eq_true (by first | (with_reducible assumption) | assumption)) (of_decide_eq_true (by first | (with_reducible assumption) | assumption)) HC0.out; have HR183 := Aside0.mk (Kd.C_of_reads (h1 := fun _ => rfl) (hA34 _ (Kd.reads_of_C HR0.out))); have HC183 := Aside0.mk hC34; clear hA34 hC34 hi034 hsz34) | ((with_reducible refine gate_builtin (b := .append) (xs := #[.tmp 77, .tmp 84]) rfl ?_); (try (refine gate_guard (by rfl) ?_; dsimp only)); at_builtin; refine Kd.R_append_rows (Kd.int .u8) (w0 := w) w.heap.size rfl (.tmp 77) (.tmp 84) 22 5 (.int .u8 0) 1 rfl Tryd.underlying22 info5 rfl (by decide) (by omega) v181 y180 ((l0.take ((wrap64 (t178 + (wrap64 (t177)))) : Int).toNat).drop (t178 : Int).toNat) _ _ _ (fun _ => True) (fun _ => False) rfl rfl ?aO ?aR (fun _ _ h => h) (fun _ h => h.elim) ?aF ?aB ?aS ?aL ?_; (case aR => first | (rw [← show ((l0.take ((wrap64 (t178 + (wrap64 (t177)))) : Int).toNat).drop (t178 : Int).toNat).length = ((wrap64 (t178 + (wrap64 (t177)))).toNat - t178.toNat) from (by rw [List.length_drop, List.length_take]; have h_ : ((wrap64 (t178 + (wrap64 (t177)))) : Int) ≤ (l0.length : Int) := of_decide_eq_true (by first | (with_reducible assumption) | assumption); omega)]; repeat (first | exact (Kd.C_below HR183.out HB.out) | (with_reducible refine Kd.C_alloc ?_ _) | (with_reducible refine Kd.C_drewN ?_ _) | (with_reducible refine Kd.C_drew ?_))) | (repeat (first | exact (Kd.C_below HR183.out HB.out) | (with_reducible refine Kd.C_alloc ?_ _) | (with_reducible refine Kd.C_drewN ?_ _) | (with_reducible refine Kd.C_drew ?_)))); (case aB => exact (by repeat (first | (with_reducible first | exact HB.out | apply below_alloc | apply pw_below_drewN | apply below_drew1) | exact HB.out))); (case aF => exact (fun _ _ => trivial)); (case aO => exact (by (with_reducible repeat (first | apply Kd.R_alloc | apply Kd.R_drewN | apply Kd.R_drew)); exact HO182.out)); (case aS => exact (below_size (by repeat (first | (with_reducible first | exact HB.out | apply below_alloc | apply pw_below_drewN | apply below_drew1) | exact HB.out)))); (case aL => have := LMc28.out; have hlx_ := (show ((l0.take ((wrap64 (t178 + (wrap64 (t177)))) : Int).toNat).drop (t178 : Int).toNat).length = ((wrap64 (t178 + (wrap64 (t177)))).toNat - t178.toNat) from (by rw [List.length_drop, List.length_take]; have h_ : ((wrap64 (t178 + (wrap64 (t177)))) : Int) ≤ (l0.length : Int) := of_decide_eq_true (by first | (with_reducible assumption) | assumption); omega)); omega); intro v185 w35 ho hb hg hat; rw [← Ny184.out] at ho; have n0_ := Aside0.mk (Kd.S_after (ok := (fun _ => True)) (by (with_reducible repeat (first | apply Kd.S_alloc | apply Kd.S_drewN | apply Kd.S_drew)); exact HO_6.out) hg hat); have n1_ := Aside0.mk (hb); have n2_ := Aside0.mk (ho); clear HO_6; clear HB; clear HO182; have HO_6 := n0_; have HB := n1_; have HO186 := n2_; clear n0_ n1_ n2_; clear ho hb hg hat; obtain ⟨Ao36, co36, eo36⟩ := Kd.R_slice HO186.out; subst eo36) | ((with_reducible refine gate_builtin (b := .append) (xs := #[.tmp 74, .tmp 87]) rfl ?_); (try (refine gate_guard (by rfl) ?_; dsimp only)); at_builtin; refine Kd.S_append k34 (w0 := w) w.heap.size rfl (.tmp 74) (.tmp 87) 24 34 (.agg #[(.int .i64 0), (.int .i64 0), (.slice none 0 0)]) 40 rfl Tryd.underlying24 info34 rfl (by decide) (by omega) (.slice Ao30 x6_2.length co30) x6_2 (⟨(wrap64 (rd l0 x8_2)), t178, y184⟩ : S34) [.int .i64 (wrap64 (rd l0 x8_2)), .int .i64 t178, .slice Ao36 y184.length co36] (fun _ => True) (fun k_ => some k_ = (.slice Ao36 y184.length co36 : Value).ownBlock) rfl rfl ?aP (fun k_ hk_ => ((Kd.R_mono (ok' := fun k_ => ((fun _ => True)) k_ ∧ some k_ ≠ (.slice Ao30 x6_2.length co30 : Value).ownBlock) (Kd.R_apart' (HO186.out) (Kd.S_typed HO_6.out) (by decide)) (fun k_ hk => ⟨trivial, hk.2⟩))).1 k_ hk_.symm) ?aF ?aO ?aB ?aS ?aL ?_; (case aP => exact k34_mkM _ _ _ (⟨(wrap64 (rd l0 x8_2)), t178, y184⟩ : S34) (Kd.R_mono (Kd.R_tight rfl (Kd.R_mono (ok' := fun k_ => ((fun _ => True)) k_ ∧ some k_ ≠ (.slice Ao30 x6_2.length co30 : Value).ownBlock) (Kd.R_apart' (HO186.out) (Kd.S_typed HO_6.out) (by decide)) (fun k_ hk => ⟨trivial, hk.2⟩))) (fun _ h_ => h_))); (case aB => exact (by repeat (first | (with_reducible first | exact HB.out | apply below_alloc | apply pw_below_drewN | apply below_drew1) | exact HB.out))); (case aF => exact (fun _ _ => trivial)); (case aO => exact (by (with_reducible repeat (first | apply Kd.S_alloc | apply Kd.S_drewN | apply Kd.S_drew)); exact Kd.S_mono HO_6.out (fun k_ hk => ⟨trivial, fun e_ => hk.2 e_⟩))); (case aS => exact (below_size (by repeat (first | (with_reducible first | exact HB.out | apply below_alloc | apply pw_below_drewN | apply below_drew1) | exact HB.out)))); (case aL => have := LMc29.out; omega); intro v188 w37 ho hb hg hat; rw [← Ny187.out] at ho; have n0_ := Aside0.mk (hb); have n1_ := Aside0.mk (ho); clear HB; clear HO_6; clear HO186; have HB := n0_; have HO189 := n1_; clear n0_ n1_; clear ho hb hg hat)))
                                        go_roundg kj12
                                        case measure => have := HJ2.out; have := HK2.out; have := HJ12.out; omega
                                        case rel => exact ⟨(y187), (x7_2), (wrap64 (t178 + (wrap64 (t177)))), (by first | rfl | (simp; done) | (simp [*]; done)), (by first | rfl | (simp; done) | (simp [*]; done)), H', ⟨by have := HJ2.out; have := HK2.out; have := HJ12.out; omega⟩, ⟨by (with_reducible repeat (first | apply Kd.S_alloc | apply Kd.S_drewN | apply Kd.S_drew)); exact HO189.out⟩, ⟨by repeat (first | (with_reducible first | exact HB.out | apply below_alloc | apply pw_below_drewN | apply below_drew1) | exact HB.out)⟩⟩
                                      · rw [if_neg c29] at H
                                        exact absurd H (by simp)
                                    · rw [if_neg c28] at H
                                      exact absurd H (by simp)
                                  · rw [if_neg c27] at H
                                    exact absurd H (by simp)
                                · rw [if_neg c26] at H
                                  exact absurd H (by simp)
                              · rw [if_neg c25] at H
                                exact absurd H (by simp)
                          · replace c21 := Bool.eq_false_iff.mpr c21
                            subst c21
                            have H1 : (some (([] : List (S34)), 2, wrap64 (x8_2 + 1))) = some (r1, r2, r3) := by rw [if_neg (show ¬ (false = true) by decide)] at H; exact H
                            clear H
                            have H := H1
                            clear H1
                            simp only [Option.some.injEq, Prod.mk.injEq] at H
                            obtain ⟨rfl, rfl, rfl⟩ := H
                            obtain ⟨Ao38, co38, eo38⟩ := Kd.S_slice HO_6.out
                            subst eo38
                            go_wp2_with (first | (go_at_call 21; (with_reducible refine (grommetref01_Read.calls kj12 _ _ l0 (wrap64 (x8_2 + 1)) 32 false t177 t178 false _ ?side1 ?side2 A20.out).mono ?_); (case side1 => repeat (first | exact (Kd.C_below HR0.out HB.out) | (with_reducible refine Kd.C_alloc ?_ _) | (with_reducible refine Kd.C_drewN ?_ _) | (with_reducible refine Kd.C_drew ?_))); (case side2 => exact HC0.out); rintro e w39 ⟨rfl, hb⟩; have n0_ := Aside0.mk (Kd.S_below (by (with_reducible repeat (first | apply Kd.S_alloc | apply Kd.S_drewN | apply Kd.S_drew)); exact HO_6.out) hb); have n1_ := Aside0.mk (below_step (by repeat (first | (with_reducible first | exact HB.out | apply below_alloc | apply pw_below_drewN | apply below_drew1) | exact HB.out)) hb); clear HO_6; clear HB; have HO_6 := n0_; have HB := n1_; clear n0_ n1_; (try clear hb); (try clear hb2); (try clear hk); (try clear hi)))
                            repeat (go_quiet (first | (go_at_call 21; (with_reducible refine (grommetref01_Read.calls kj12 _ _ l0 (wrap64 (x8_2 + 1)) 32 false t177 t178 false _ ?side1 ?side2 A20.out).mono ?_); (case side1 => repeat (first | exact (Kd.C_below HR0.out HB.out) | (with_reducible refine Kd.C_alloc ?_ _) | (with_reducible refine Kd.C_drewN ?_ _) | (with_reducible refine Kd.C_drew ?_))); (case side2 => exact HC0.out); rintro e w39 ⟨rfl, hb⟩; have n0_ := Aside0.mk (Kd.S_below (by (with_reducible repeat (first | apply Kd.S_alloc | apply Kd.S_drewN | apply Kd.S_drew)); exact HO_6.out) hb); have n1_ := Aside0.mk (below_step (by repeat (first | (with_reducible first | exact HB.out | apply below_alloc | apply pw_below_drewN | apply below_drew1) | exact HB.out)) hb); clear HO_6; clear HB; have HO_6 := n0_; have HB := n1_; clear n0_ n1_; (try clear hb); (try clear hb2); (try clear hk); (try clear hi))); try go_wp2_with (first | (go_at_call 21; (with_reducible refine (grommetref01_Read.calls kj12 _ _ l0 (wrap64 (x8_2 + 1)) 32 false t177 t178 false _ ?side1 ?side2 A20.out).mono ?_); (case side1 => repeat (first | exact (Kd.C_below HR0.out HB.out) | (with_reducible refine Kd.C_alloc ?_ _) | (with_reducible refine Kd.C_drewN ?_ _) | (with_reducible refine Kd.C_drew ?_))); (case side2 => exact HC0.out); rintro e w39 ⟨rfl, hb⟩; have n0_ := Aside0.mk (Kd.S_below (by (with_reducible repeat (first | apply Kd.S_alloc | apply Kd.S_drewN | apply Kd.S_drew)); exact HO_6.out) hb); have n1_ := Aside0.mk (below_step (by repeat (first | (with_reducible first | exact HB.out | apply below_alloc | apply pw_below_drewN | apply below_drew1) | exact HB.out)) hb); clear HO_6; clear HB; have HO_6 := n0_; have HB := n1_; clear n0_ n1_; (try clear hb); (try clear hb2); (try clear hk); (try clear hi))))
                            go_ret3
                            exact ⟨_, by first | rfl | (simp [errW_none, errW_some] <;> rfl) | (simp [*, errW_none, errW_some] <;> rfl), by first | exact Kd.S_nil _ _ _ _ _ | exact Kd.N_nil _ _ _ _ _ | exact Kd.V_nil _ _ _ _ _ | exact Kd.Q_nil _ _ _ _ _ | exact Kd.R_nil _ _ _ _ _, by repeat (first | (with_reducible first | exact HB.out | apply below_alloc | apply pw_below_drewN | apply below_drew1) | exact HB.out)⟩
                        · rw [if_neg c19] at H
                          have c19b0 : ((wrap64 (rd l0 x8_2)) == 0) = false := beq_eq_false_iff_ne.mpr c19
                          have c19b1 : ((wrap64 (rd l0 x8_2)) != 0) = true := bne_iff_ne.mpr c19
                          replace H := Option.bind_eq_some_iff.mp H
                          obtain ⟨⟨t190, t191, t192⟩, A400, H⟩ := H
                          replace H : (if t192 = true then (if t190 > (IntKind.u64.wrap (wrap64 ((l0.length : Int) - t191))) then (some (([] : List (S34)), 2, wrap64 (x8_2 + 1))) else ((some (([] : List Int) : List Int)).bind fun y193 => (if 0 ≤ t191 then (if t191 ≤ (wrap64 (t191 + (wrap64 (t190)))) then (if (wrap64 (t191 + (wrap64 (t190)))) ≤ (l0.length : Int) then (if y193.length + ((l0.take ((wrap64 (t191 + (wrap64 (t190)))) : Int).toNat).drop (t191 : Int).toNat).length < 140737488355328 then (if x6_2.length < 3518437208883 then (grommetref07_Split.l0 kj12 l0 (x6_2 ++ [(⟨(wrap64 (rd l0 x8_2)), t191, (y193 ++ ((l0.take ((wrap64 (t191 + (wrap64 (t190)))) : Int).toNat).drop (t191 : Int).toNat))⟩ : S34)]) (wrap64 (rd l0 x8_2)) (wrap64 (t191 + (wrap64 (t190))))) else (none)) else (none)) else (none)) else (none)) else (none)))) else (some (([] : List (S34)), 2, wrap64 (x8_2 + 1)))) = some (r1, r2, r3) := H
                          have A40 := Aside0.mk A400
                          clear A400
                          by_cases c41 : t192 = true
                          · subst c41
                            have H1 : (if t190 > (IntKind.u64.wrap (wrap64 ((l0.length : Int) - t191))) then (some (([] : List (S34)), 2, wrap64 (x8_2 + 1))) else ((some (([] : List Int) : List Int)).bind fun y193 => (if 0 ≤ t191 then (if t191 ≤ (wrap64 (t191 + (wrap64 (t190)))) then (if (wrap64 (t191 + (wrap64 (t190)))) ≤ (l0.length : Int) then (if y193.length + ((l0.take ((wrap64 (t191 + (wrap64 (t190)))) : Int).toNat).drop (t191 : Int).toNat).length < 140737488355328 then (if x6_2.length < 3518437208883 then (grommetref07_Split.l0 kj12 l0 (x6_2 ++ [(⟨(wrap64 (rd l0 x8_2)), t191, (y193 ++ ((l0.take ((wrap64 (t191 + (wrap64 (t190)))) : Int).toNat).drop (t191 : Int).toNat))⟩ : S34)]) (wrap64 (rd l0 x8_2)) (wrap64 (t191 + (wrap64 (t190))))) else (none)) else (none)) else (none)) else (none)) else (none)))) = some (r1, r2, r3) := by rw [if_pos rfl] at H; exact H
                            clear H
                            have H := H1
                            clear H1
                            by_cases c42 : t190 > (IntKind.u64.wrap (wrap64 ((l0.length : Int) - t191)))
                            · rw [if_pos c42] at H
                              have c42b0 : decide ((IntKind.u64.wrap (wrap64 ((l0.length : Int) - t191))) < t190) = true := decide_eq_true c42
                              clear c42
                              simp only [Option.some.injEq, Prod.mk.injEq] at H
                              obtain ⟨rfl, rfl, rfl⟩ := H
                              obtain ⟨Ao43, co43, eo43⟩ := Kd.S_slice HO_6.out
                              subst eo43
                              go_wp2_with (first | (go_at_call 21; (with_reducible refine (grommetref01_Read.calls kj12 _ _ l0 (wrap64 (x8_2 + 1)) 32 false t190 t191 true _ ?side1 ?side2 A40.out).mono ?_); (case side1 => repeat (first | exact (Kd.C_below HR0.out HB.out) | (with_reducible refine Kd.C_alloc ?_ _) | (with_reducible refine Kd.C_drewN ?_ _) | (with_reducible refine Kd.C_drew ?_))); (case side2 => exact HC0.out); rintro e w44 ⟨rfl, hb⟩; have n0_ := Aside0.mk (Kd.S_below (by (with_reducible repeat (first | apply Kd.S_alloc | apply Kd.S_drewN | apply Kd.S_drew)); exact HO_6.out) hb); have n1_ := Aside0.mk (below_step (by repeat (first | (with_reducible first | exact HB.out | apply below_alloc | apply pw_below_drewN | apply below_drew1) | exact HB.out)) hb); clear HO_6; clear HB; have HO_6 := n0_; have HB := n1_; clear n0_ n1_; (try clear hb); (try clear hb2); (try clear hk); (try clear hi)))
                              repeat (go_quiet (first | (go_at_call 21; (with_reducible refine (grommetref01_Read.calls kj12 _ _ l0 (wrap64 (x8_2 + 1)) 32 false t190 t191 true _ ?side1 ?side2 A40.out).mono ?_); (case side1 => repeat (first | exact (Kd.C_below HR0.out HB.out) | (with_reducible refine Kd.C_alloc ?_ _) | (with_reducible refine Kd.C_drewN ?_ _) | (with_reducible refine Kd.C_drew ?_))); (case side2 => exact HC0.out); rintro e w44 ⟨rfl, hb⟩; have n0_ := Aside0.mk (Kd.S_below (by (with_reducible repeat (first | apply Kd.S_alloc | apply Kd.S_drewN | apply Kd.S_drew)); exact HO_6.out) hb); have n1_ := Aside0.mk (below_step (by repeat (first | (with_reducible first | exact HB.out | apply below_alloc | apply pw_below_drewN | apply below_drew1) | exact HB.out)) hb); clear HO_6; clear HB; have HO_6 := n0_; have HB := n1_; clear n0_ n1_; (try clear hb); (try clear hb2); (try clear hk); (try clear hi))); try go_wp2_with (first | (go_at_call 21; (with_reducible refine (grommetref01_Read.calls kj12 _ _ l0 (wrap64 (x8_2 + 1)) 32 false t190 t191 true _ ?side1 ?side2 A40.out).mono ?_); (case side1 => repeat (first | exact (Kd.C_below HR0.out HB.out) | (with_reducible refine Kd.C_alloc ?_ _) | (with_reducible refine Kd.C_drewN ?_ _) | (with_reducible refine Kd.C_drew ?_))); (case side2 => exact HC0.out); rintro e w44 ⟨rfl, hb⟩; have n0_ := Aside0.mk (Kd.S_below (by (with_reducible repeat (first | apply Kd.S_alloc | apply Kd.S_drewN | apply Kd.S_drew)); exact HO_6.out) hb); have n1_ := Aside0.mk (below_step (by repeat (first | (with_reducible first | exact HB.out | apply below_alloc | apply pw_below_drewN | apply below_drew1) | exact HB.out)) hb); clear HO_6; clear HB; have HO_6 := n0_; have HB := n1_; clear n0_ n1_; (try clear hb); (try clear hb2); (try clear hk); (try clear hi))))
                              go_ret3
                              exact ⟨_, by first | rfl | (simp [errW_none, errW_some] <;> rfl) | (simp [*, errW_none, errW_some] <;> rfl), by first | exact Kd.S_nil _ _ _ _ _ | exact Kd.N_nil _ _ _ _ _ | exact Kd.V_nil _ _ _ _ _ | exact Kd.Q_nil _ _ _ _ _ | exact Kd.R_nil _ _ _ _ _, by repeat (first | (with_reducible first | exact HB.out | apply below_alloc | apply pw_below_drewN | apply below_drew1) | exact HB.out)⟩
                            · rw [if_neg c42] at H
                              have c42b0 : decide ((IntKind.u64.wrap (wrap64 ((l0.length : Int) - t191))) < t190) = false := decide_eq_false c42
                              clear c42
                              obtain ⟨y193, hy193⟩ : ∃ y_ : List Int, y_ = (([] : List Int)) := ⟨_, rfl⟩
                              replace H : (if 0 ≤ t191 then (if t191 ≤ (wrap64 (t191 + (wrap64 (t190)))) then (if (wrap64 (t191 + (wrap64 (t190)))) ≤ (l0.length : Int) then (if y193.length + ((l0.take ((wrap64 (t191 + (wrap64 (t190)))) : Int).toNat).drop (t191 : Int).toNat).length < 140737488355328 then (if x6_2.length < 3518437208883 then (grommetref07_Split.l0 kj12 l0 (x6_2 ++ [(⟨(wrap64 (rd l0 x8_2)), t191, (y193 ++ ((l0.take ((wrap64 (t191 + (wrap64 (t190)))) : Int).toNat).drop (t191 : Int).toNat))⟩ : S34)]) (wrap64 (rd l0 x8_2)) (wrap64 (t191 + (wrap64 (t190))))) else (none)) else (none)) else (none)) else (none)) else (none)) = some (r1, r2, r3) := by first | (rw [hy193]; with_reducible exact H) | (have H2_ := (Option.bind_some _ _).symm.trans H; rw [hy193]; with_reducible exact H2_) | (have H2_ := (Option.bind_some _ _).symm.trans H; with_reducible exact H2_) | with_reducible exact H | (rw [hy193]; exact H) | exact H
                              have Ny193 := Aside0.mk hy193
                              clear hy193
                              by_cases c45 : 0 ≤ t191
                              · rw [if_pos c45] at H
                                have c45b0 := eq_true c45
                                have c45b1 : decide (0 ≤ t191) = true := decide_eq_true c45
                                clear c45
                                by_cases c46 : t191 ≤ (wrap64 (t191 + (wrap64 (t190))))
                                · rw [if_pos c46] at H
                                  have c46b0 := eq_true c46
                                  have c46b1 : decide (t191 ≤ (wrap64 (t191 + (wrap64 (t190))))) = true := decide_eq_true c46
                                  by_cases c47 : (wrap64 (t191 + (wrap64 (t190)))) ≤ (l0.length : Int)
                                  · rw [if_pos c47] at H
                                    have c47b0 := eq_true c47
                                    have c47b1 : decide ((wrap64 (t191 + (wrap64 (t190)))) ≤ (l0.length : Int)) = true := decide_eq_true c47
                                    by_cases c48 : y193.length + ((l0.take ((wrap64 (t191 + (wrap64 (t190)))) : Int).toNat).drop (t191 : Int).toNat).length < 140737488355328
                                    · rw [if_pos c48] at H
                                      have LMc48 := Aside0.mk c48
                                      clear c48
                                      obtain ⟨y197, hy197⟩ : ∃ y_ : List Int, y_ = (y193 ++ ((l0.take ((wrap64 (t191 + (wrap64 (t190)))) : Int).toNat).drop (t191 : Int).toNat)) := ⟨_, rfl⟩
                                      replace H : (if x6_2.length < 3518437208883 then (grommetref07_Split.l0 kj12 l0 (x6_2 ++ [(⟨(wrap64 (rd l0 x8_2)), t191, y197⟩ : S34)]) (wrap64 (rd l0 x8_2)) (wrap64 (t191 + (wrap64 (t190))))) else (none)) = some (r1, r2, r3) := by first | (rw [hy197]; with_reducible exact H) | (have H2_ := (Option.bind_some _ _).symm.trans H; rw [hy197]; with_reducible exact H2_) | (have H2_ := (Option.bind_some _ _).symm.trans H; with_reducible exact H2_) | with_reducible exact H | (rw [hy197]; exact H) | exact H
                                      have Ny197 := Aside0.mk hy197
                                      clear hy197
                                      by_cases c49 : x6_2.length < 3518437208883
                                      · rw [if_pos c49] at H
                                        have LMc49 := Aside0.mk c49
                                        clear c49
                                        obtain ⟨y200, hy200⟩ : ∃ y_ : List (S34), y_ = (x6_2 ++ [(⟨(wrap64 (rd l0 x8_2)), t191, y197⟩ : S34)]) := ⟨_, rfl⟩
                                        replace H : (grommetref07_Split.l0 kj12 l0 y200 (wrap64 (rd l0 x8_2)) (wrap64 (t191 + (wrap64 (t190))))) = some (r1, r2, r3) := by first | (rw [hy200]; with_reducible exact H) | (have H2_ := (Option.bind_some _ _).symm.trans H; rw [hy200]; with_reducible exact H2_) | (have H2_ := (Option.bind_some _ _).symm.trans H; with_reducible exact H2_) | with_reducible exact H | (rw [hy200]; exact H) | exact H
                                        have Ny200 := Aside0.mk hy200
                                        clear hy200
                                        have H' := Aside0.mk H
                                        clear H
                                        obtain ⟨Ao50, co50, eo50⟩ := Kd.S_slice HO_6.out
                                        subst eo50
                                        go_wp2_with (first | (go_at_call 21; (with_reducible refine (grommetref01_Read.calls kj12 _ _ l0 (wrap64 (x8_2 + 1)) 32 false t190 t191 true _ ?side1 ?side2 A40.out).mono ?_); (case side1 => repeat (first | exact (Kd.C_below HR0.out HB.out) | (with_reducible refine Kd.C_alloc ?_ _) | (with_reducible refine Kd.C_drewN ?_ _) | (with_reducible refine Kd.C_drew ?_))); (case side2 => exact HC0.out); rintro e w51 ⟨rfl, hb⟩; have n0_ := Aside0.mk (Kd.S_below (by (with_reducible repeat (first | apply Kd.S_alloc | apply Kd.S_drewN | apply Kd.S_drew)); exact HO_6.out) hb); have n1_ := Aside0.mk (below_step (by repeat (first | (with_reducible first | exact HB.out | apply below_alloc | apply pw_below_drewN | apply below_drew1) | exact HB.out)) hb); clear HO_6; clear HB; have HO_6 := n0_; have HB := n1_; clear n0_ n1_; (try clear hb); (try clear hb2); (try clear hk); (try clear hi)) | ((with_reducible refine gate_dst (N := 77) rfl ?_); (try (refine gate_guard (by rfl) ?_; dsimp only)); refine Kd.R_lit (Kd.int .u8) _ 5 ?hg (N := 77) ?hd (xs := ([] : List Int)) (inner := []) (ok := fun _ => True) (okp := fun _ => True) ?hr ?hp (fun _ hk => hk) trivial (Below.refl _ _) (Nat.le_refl _) (by simp) ?_; (case hd => rfl); (case hg => rfl); (case hr => first | (go_simp; done) | (go_simp; rfl)); (case hp => exact (Reps.none _ _)); intro v194 w52 ho53 hb hg_ hnew_; clear hg_ hnew_; (first | rw [← Ny193.out] at ho53 | (simp only [Int.reduceToNat] at ho53; rw [← Ny193.out] at ho53)); have n0_ := Aside0.mk (Kd.S_elder' (by (with_reducible repeat (first | apply Kd.S_alloc | apply Kd.S_drewN | apply Kd.S_drew)); exact HO_6.out) (Kd.R_base ho53) hb); have n1_ := Aside0.mk (Kd.R_lower ho53 (below_size (by repeat (first | (with_reducible first | exact HB.out | apply below_alloc | apply pw_below_drewN | apply below_drew1) | exact HB.out)))); have n2_ := Aside0.mk (below_step (by repeat (first | (with_reducible first | exact HB.out | apply below_alloc | apply pw_below_drewN | apply below_drew1) | exact HB.out)) hb); clear HO_6; clear HB; have HO_6 := n0_; have HO195 := n1_; have HB := n2_; clear n0_ n1_ n2_; clear hb ho53; obtain ⟨i054, hi054, _, hsz54, _⟩ := info_parts info5; obtain ⟨A54, hcut54, hA54, hC54⟩ := print_mid_of (P := Tryd.prog) (Value.int .u8) 0 22 5 .i64 .i64 Tryd.underlying22 hi054 hsz54 (some ad176) c0 l0 t191 (wrap64 (t191 + (wrap64 (t190)))) (of_decide_eq_true (by first | (with_reducible assumption) | assumption)) (by first | omega | exact of_decide_eq_true (by first | (with_reducible assumption) | assumption)) (of_decide_eq_true (by first | (with_reducible assumption) | assumption)) HC0.out; have HR196 := Aside0.mk (Kd.C_of_reads (h1 := fun _ => rfl) (hA54 _ (Kd.reads_of_C HR0.out))); have HC196 := Aside0.mk hC54; clear hA54 hC54 hi054 hsz54) | ((with_reducible refine gate_builtin (b := .append) (xs := #[.tmp 77, .tmp 84]) rfl ?_); (try (refine gate_guard (by rfl) ?_; dsimp only)); at_builtin; refine Kd.R_append_rows (Kd.int .u8) (w0 := w) w.heap.size rfl (.tmp 77) (.tmp 84) 22 5 (.int .u8 0) 1 rfl Tryd.underlying22 info5 rfl (by decide) (by omega) v194 y193 ((l0.take ((wrap64 (t191 + (wrap64 (t190)))) : Int).toNat).drop (t191 : Int).toNat) _ _ _ (fun _ => True) (fun _ => False) rfl rfl ?aO ?aR (fun _ _ h => h) (fun _ h => h.elim) ?aF ?aB ?aS ?aL ?_; (case aR => first | (rw [← show ((l0.take ((wrap64 (t191 + (wrap64 (t190)))) : Int).toNat).drop (t191 : Int).toNat).length = ((wrap64 (t191 + (wrap64 (t190)))).toNat - t191.toNat) from (by rw [List.length_drop, List.length_take]; have h_ : ((wrap64 (t191 + (wrap64 (t190)))) : Int) ≤ (l0.length : Int) := of_decide_eq_true (by first | (with_reducible assumption) | assumption); omega)]; repeat (first | exact (Kd.C_below HR196.out HB.out) | (with_reducible refine Kd.C_alloc ?_ _) | (with_reducible refine Kd.C_drewN ?_ _) | (with_reducible refine Kd.C_drew ?_))) | (repeat (first | exact (Kd.C_below HR196.out HB.out) | (with_reducible refine Kd.C_alloc ?_ _) | (with_reducible refine Kd.C_drewN ?_ _) | (with_reducible refine Kd.C_drew ?_)))); (case aB => exact (by repeat (first | (with_reducible first | exact HB.out | apply below_alloc | apply pw_below_drewN | apply below_drew1) | exact HB.out))); (case aF => exact (fun _ _ => trivial)); (case aO => exact (by (with_reducible repeat (first | apply Kd.R_alloc | apply Kd.R_drewN | apply Kd.R_drew)); exact HO195.out)); (case aS => exact (below_size (by repeat (first | (with_reducible first | exact HB.out | apply below_alloc | apply pw_below_drewN | apply below_drew1) | exact HB.out)))); (case aL => have := LMc48.out; have hlx_ := (show ((l0.take ((wrap64 (t191 + (wrap64 (t190)))) : Int).toNat).drop (t191 : Int).toNat).length = ((wrap64 (t191 + (wrap64 (t190)))).toNat - t191.toNat) from (by rw [List.length_drop, List.length_take]; have h_ : ((wrap64 (t191 + (wrap64 (t190)))) : Int) ≤ (l0.length : Int) := of_decide_eq_true (by first | (with_reducible assumption) | assumption); omega)); omega); intro v198 w55 ho hb hg hat; rw [← Ny197.out] at ho; have n0_ := Aside0.mk (Kd.S_after (ok := (fun _ => True)) (by (with_reducible repeat (first | apply Kd.S_alloc | apply Kd.S_drewN | apply Kd.S_drew)); exact HO_6.out) hg hat); have n1_ := Aside0.mk (hb); have n2_ := Aside0.mk (ho); clear HO_6; clear HB; clear HO195; have HO_6 := n0_; have HB := n1_; have HO199 := n2_; clear n0_ n1_ n2_; clear ho hb hg hat; obtain ⟨Ao56, co56, eo56⟩ := Kd.R_slice HO199.out; subst eo56) | ((with_reducible refine gate_builtin (b := .append) (xs := #[.tmp 74, .tmp 87]) rfl ?_); (try (refine gate_guard (by rfl) ?_; dsimp only)); at_builtin; refine Kd.S_append k34 (w0 := w) w.heap.size rfl (.tmp 74) (.tmp 87) 24 34 (.agg #[(.int .i64 0), (.int .i64 0), (.slice none 0 0)]) 40 rfl Tryd.underlying24 info34 rfl (by decide) (by omega) (.slice Ao50 x6_2.length co50) x6_2 (⟨(wrap64 (rd l0 x8_2)), t191, y197⟩ : S34) [.int .i64 (wrap64 (rd l0 x8_2)), .int .i64 t191, .slice Ao56 y197.length co56] (fun _ => True) (fun k_ => some k_ = (.slice Ao56 y197.length co56 : Value).ownBlock) rfl rfl ?aP (fun k_ hk_ => ((Kd.R_mono (ok' := fun k_ => ((fun _ => True)) k_ ∧ some k_ ≠ (.slice Ao50 x6_2.length co50 : Value).ownBlock) (Kd.R_apart' (HO199.out) (Kd.S_typed HO_6.out) (by decide)) (fun k_ hk => ⟨trivial, hk.2⟩))).1 k_ hk_.symm) ?aF ?aO ?aB ?aS ?aL ?_; (case aP => exact k34_mkM _ _ _ (⟨(wrap64 (rd l0 x8_2)), t191, y197⟩ : S34) (Kd.R_mono (Kd.R_tight rfl (Kd.R_mono (ok' := fun k_ => ((fun _ => True)) k_ ∧ some k_ ≠ (.slice Ao50 x6_2.length co50 : Value).ownBlock) (Kd.R_apart' (HO199.out) (Kd.S_typed HO_6.out) (by decide)) (fun k_ hk => ⟨trivial, hk.2⟩))) (fun _ h_ => h_))); (case aB => exact (by repeat (first | (with_reducible first | exact HB.out | apply below_alloc | apply pw_below_drewN | apply below_drew1) | exact HB.out))); (case aF => exact (fun _ _ => trivial)); (case aO => exact (by (with_reducible repeat (first | apply Kd.S_alloc | apply Kd.S_drewN | apply Kd.S_drew)); exact Kd.S_mono HO_6.out (fun k_ hk => ⟨trivial, fun e_ => hk.2 e_⟩))); (case aS => exact (below_size (by repeat (first | (with_reducible first | exact HB.out | apply below_alloc | apply pw_below_drewN | apply below_drew1) | exact HB.out)))); (case aL => have := LMc49.out; omega); intro v201 w57 ho hb hg hat; rw [← Ny200.out] at ho; have n0_ := Aside0.mk (hb); have n1_ := Aside0.mk (ho); clear HB; clear HO_6; clear HO199; have HB := n0_; have HO202 := n1_; clear n0_ n1_; clear ho hb hg hat))
                                        repeat (go_quiet (first | (go_at_call 21; (with_reducible refine (grommetref01_Read.calls kj12 _ _ l0 (wrap64 (x8_2 + 1)) 32 false t190 t191 true _ ?side1 ?side2 A40.out).mono ?_); (case side1 => repeat (first | exact (Kd.C_below HR0.out HB.out) | (with_reducible refine Kd.C_alloc ?_ _) | (with_reducible refine Kd.C_drewN ?_ _) | (with_reducible refine Kd.C_drew ?_))); (case side2 => exact HC0.out); rintro e w51 ⟨rfl, hb⟩; have n0_ := Aside0.mk (Kd.S_below (by (with_reducible repeat (first | apply Kd.S_alloc | apply Kd.S_drewN | apply Kd.S_drew)); exact HO_6.out) hb); have n1_ := Aside0.mk (below_step (by repeat (first | (with_reducible first | exact HB.out | apply below_alloc | apply pw_below_drewN | apply below_drew1) | exact HB.out)) hb); clear HO_6; clear HB; have HO_6 := n0_; have HB := n1_; clear n0_ n1_; (try clear hb); (try clear hb2); (try clear hk); (try clear hi)) | ((with_reducible refine gate_dst (N := 77) rfl ?_); (try (refine gate_guard (by rfl) ?_; dsimp only)); refine Kd.R_lit (Kd.int .u8) _ 5 ?hg (N := 77) ?hd (xs := ([] : List Int)) (inner := []) (ok := fun _ => True) (okp := fun _ => True) ?hr ?hp (fun _ hk => hk) trivial (Below.refl _ _) (Nat.le_refl _) (by simp) ?_; (case hd => rfl); (case hg => rfl); (case hr => first | (go_simp; done) | (go_simp; rfl)); (case hp => exact (Reps.none _ _)); intro v194 w52 ho53 hb hg_ hnew_; clear hg_ hnew_; (first | rw [← Ny193.out] at ho53 | (simp only [Int.reduceToNat] at ho53; rw [← Ny193.out] at ho53)); have n0_ := Aside0.mk (Kd.S_elder' (by (with_reducible repeat (first | apply Kd.S_alloc | apply Kd.S_drewN | apply Kd.S_drew)); exact HO_6.out) (Kd.R_base ho53) hb); have n1_ := Aside0.mk (Kd.R_lower ho53 (below_size (by repeat (first | (with_reducible first | exact HB.out | apply below_alloc | apply pw_below_drewN | apply below_drew1) | exact HB.out)))); have n2_ := Aside0.mk (below_step (by repeat (first | (with_reducible first | exact HB.out | apply below_alloc | apply pw_below_drewN | apply below_drew1) | exact HB.out)) hb); clear HO_6; clear HB; have HO_6 := n0_; have HO195 := n1_; have HB := n2_; clear n0_ n1_ n2_; clear hb ho53; obtain ⟨i054, hi054, _, hsz54, _⟩ := info_parts info5; obtain ⟨A54, hcut54, hA54, hC54⟩ := print_mid_of (P := Tryd.prog) (Value.int .u8) 0 22 5 .i64 .i64 Tryd.underlying22 hi054 hsz54 (some ad176) c0 l0 t191 (wrap64 (t191 + (wrap64 (t190)))) (of_decide_eq_true (by first | (with_reducible assumption) | assumption)) (by first | omega | exact of_decide_eq_true (by first | (with_reducible assumption) | assumption)) (of_decide_eq_true (by first | (with_reducible assumption) | assumption)) HC0.out; have HR196 := Aside0.mk (Kd.C_of_reads (h1 := fun _ => rfl) (hA54 _ (Kd.reads_of_C HR0.out))); have HC196 := Aside0.mk hC54; clear hA54 hC54 hi054 hsz54) | ((with_reducible refine gate_builtin (b := .append) (xs := #[.tmp 77, .tmp 84]) rfl ?_); (try (refine gate_guard (by rfl) ?_; dsimp only)); at_builtin; refine Kd.R_append_rows (Kd.int .u8) (w0 := w) w.heap.size rfl (.tmp 77) (.tmp 84) 22 5 (.int .u8 0) 1 rfl Tryd.underlying22 info5 rfl (by decide) (by omega) v194 y193 ((l0.take ((wrap64 (t191 + (wrap64 (t190)))) : Int).toNat).drop (t191 : Int).toNat) _ _ _ (fun _ => True) (fun _ => False) rfl rfl ?aO ?aR (fun _ _ h => h) (fun _ h => h.elim) ?aF ?aB ?aS ?aL ?_; (case aR => first | (rw [← show ((l0.take ((wrap64 (t191 + (wrap64 (t190)))) : Int).toNat).drop (t191 : Int).toNat).length = ((wrap64 (t191 + (wrap64 (t190)))).toNat - t191.toNat) from (by rw [List.length_drop, List.length_take]; have h_ : ((wrap64 (t191 + (wrap64 (t190)))) : Int) ≤ (l0.length : Int) := of_decide_eq_true (by first | (with_reducible assumption) | assumption); omega)]; repeat (first | exact (Kd.C_below HR196.out HB.out) | (with_reducible refine Kd.C_alloc ?_ _) | (with_reducible refine Kd.C_drewN ?_ _) | (with_reducible refine Kd.C_drew ?_))) | (repeat (first | exact (Kd.C_below HR196.out HB.out) | (with_reducible refine Kd.C_alloc ?_ _) | (with_reducible refine Kd.C_drewN ?_ _) | (with_reducible refine Kd.C_drew ?_)))); (case aB => exact (by repeat (first | (with_reducible first | exact HB.out | apply below_alloc | apply pw_below_drewN | apply below_drew1) | exact HB.out))); (case aF => exact (fun _ _ => trivial)); (case aO => exact (by (with_reducible repeat (first | apply Kd.R_alloc | apply Kd.R_drewN | apply Kd.R_drew)); exact HO195.out)); (case aS => exact (below_size (by repeat (first | (with_reducible first | exact HB.out | apply below_alloc | apply pw_below_drewN | apply below_drew1) | exact HB.out)))); (case aL => have := LMc48.out; have hlx_ := (show ((l0.take ((wrap64 (t191 + (wrap64 (t190)))) : Int).toNat).drop (t191 : Int).toNat).length = ((wrap64 (t191 + (wrap64 (t190)))).toNat - t191.toNat) from (by rw [List.length_drop, List.length_take]; have h_ : ((wrap64 (t191 + (wrap64 (t190)))) : Int) ≤ (l0.length : Int) := of_decide_eq_true (by first | (with_reducible assumption) | assumption); omega)); omega); intro v198 w55 ho hb hg hat; rw [← Ny197.out] at ho; have n0_ := Aside0.mk (Kd.S_after (ok := (fun _ => True)) (by (with_reducible repeat (first | apply Kd.S_alloc | apply Kd.S_drewN | apply Kd.S_drew)); exact HO_6.out) hg hat); have n1_ := Aside0.mk (hb); have n2_ := Aside0.mk (ho); clear HO_6; clear HB; clear HO195; have HO_6 := n0_; have HB := n1_; have HO199 := n2_; clear n0_ n1_ n2_; clear ho hb hg hat; obtain ⟨Ao56, co56, eo56⟩ := Kd.R_slice HO199.out; subst eo56) | ((with_reducible refine gate_builtin (b := .append) (xs := #[.tmp 74, .tmp 87]) rfl ?_); (try (refine gate_guard (by rfl) ?_; dsimp only)); at_builtin; refine Kd.S_append k34 (w0 := w) w.heap.size rfl (.tmp 74) (.tmp 87) 24 34 (.agg #[(.int .i64 0), (.int .i64 0), (.slice none 0 0)]) 40 rfl Tryd.underlying24 info34 rfl (by decide) (by omega) (.slice Ao50 x6_2.length co50) x6_2 (⟨(wrap64 (rd l0 x8_2)), t191, y197⟩ : S34) [.int .i64 (wrap64 (rd l0 x8_2)), .int .i64 t191, .slice Ao56 y197.length co56] (fun _ => True) (fun k_ => some k_ = (.slice Ao56 y197.length co56 : Value).ownBlock) rfl rfl ?aP (fun k_ hk_ => ((Kd.R_mono (ok' := fun k_ => ((fun _ => True)) k_ ∧ some k_ ≠ (.slice Ao50 x6_2.length co50 : Value).ownBlock) (Kd.R_apart' (HO199.out) (Kd.S_typed HO_6.out) (by decide)) (fun k_ hk => ⟨trivial, hk.2⟩))).1 k_ hk_.symm) ?aF ?aO ?aB ?aS ?aL ?_; (case aP => exact k34_mkM _ _ _ (⟨(wrap64 (rd l0 x8_2)), t191, y197⟩ : S34) (Kd.R_mono (Kd.R_tight rfl (Kd.R_mono (ok' := fun k_ => ((fun _ => True)) k_ ∧ some k_ ≠ (.slice Ao50 x6_2.length co50 : Value).ownBlock) (Kd.R_apart' (HO199.out) (Kd.S_typed HO_6.out) (by decide)) (fun k_ hk => ⟨trivial, hk.2⟩))) (fun _ h_ => h_))); (case aB => exact (by repeat (first | (with_reducible first | exact HB.out | apply below_alloc | apply pw_below_drewN | apply below_drew1) | exact HB.out))); (case aF => exact (fun _ _ => trivial)); (case aO => exact (by (with_reducible repeat (first | apply Kd.S_alloc | apply Kd.S_drewN | apply Kd.S_drew)); exact Kd.S_mono HO_6.out (fun k_ hk => ⟨trivial, fun e_ => hk.2 e_⟩))); (case aS => exact (below_size (by repeat (first | (with_reducible first | exact HB.out | apply below_alloc | apply pw_below_drewN | apply below_drew1) | exact HB.out)))); (case aL => have := LMc49.out; omega); intro v201 w57 ho hb hg hat; rw [← Ny200.out] at ho; have n0_ := Aside0.mk (hb); have n1_ := Aside0.mk (ho); clear HB; clear HO_6; clear HO199; have HB := n0_; have HO202 := n1_; clear n0_ n1_; clear ho hb hg hat)); try go_wp2_with (first | (go_at_call 21; (with_reducible refine (grommetref01_Read.calls kj12 _ _ l0 (wrap64 (x8_2 + 1)) 32 false t190 t191 true _ ?side1 ?side2 A40.out).mono ?_); (case side1 => repeat (first | exact (Kd.C_below HR0.out HB.out) | (with_reducible refine Kd.C_alloc ?_ _) | (with_reducible refine Kd.C_drewN ?_ _) | (with_reducible refine Kd.C_drew ?_))); (case side2 => exact HC0.out); rintro e w51 ⟨rfl, hb⟩; have n0_ := Aside0.mk (Kd.S_below (by (with_reducible repeat (first | apply Kd.S_alloc | apply Kd.S_drewN | apply Kd.S_drew)); exact HO_6.out) hb); have n1_ := Aside0.mk (below_step (by repeat (first | (with_reducible first | exact HB.out | apply below_alloc | apply pw_below_drewN | apply below_drew1) | exact HB.out)) hb); clear HO_6; clear HB; have HO_6 := n0_; have HB := n1_; clear n0_ n1_; (try clear hb); (try clear hb2); (try clear hk); (try clear hi)) | ((with_reducible refine gate_dst (N := 77) rfl ?_); (try (refine gate_guard (by rfl) ?_; dsimp only)); refine Kd.R_lit (Kd.int .u8) _ 5 ?hg (N := 77) ?hd (xs := ([] : List Int)) (inner := []) (ok := fun _ => True) (okp := fun _ => True) ?hr ?hp (fun _ hk => hk) trivial (Below.refl _ _) (Nat.le_refl _) (by simp) ?_; (case hd => rfl); (case hg => rfl); (case hr => first | (go_simp; done) | (go_simp; rfl)); (case hp => exact (Reps.none _ _)); intro v194 w52 ho53 hb hg_ hnew_; clear hg_ hnew_; (first | rw [← Ny193.out] at ho53 | (simp only [Int.reduceToNat] at ho53; rw [← Ny193.out] at ho53)); have n0_ := Aside0.mk (Kd.S_elder' (by (with_reducible repeat (first | apply Kd.S_alloc | apply Kd.S_drewN | apply Kd.S_drew)); exact HO_6.out) (Kd.R_base ho53) hb); have n1_ := Aside0.mk (Kd.R_lower ho53 (below_size (by repeat (first | (with_reducible first | exact HB.out | apply below_alloc | apply pw_below_drewN | apply below_drew1) | exact HB.out)))); have n2_ := Aside0.mk (below_step (by repeat (first | (with_reducible first | exact HB.out | apply below_alloc | apply pw_below_drewN | apply below_drew1) | exact HB.out)) hb); clear HO_6; clear HB; have HO_6 := n0_; have HO195 := n1_; have HB := n2_; clear n0_ n1_ n2_; clear hb ho53; obtain ⟨i054, hi054, _, hsz54, _⟩ := info_parts info5; obtain ⟨A54, hcut54, hA54, hC54⟩ := print_mid_of (P := Tryd.prog) (Value.int .u8) 0 22 5 .i64 .i64 Tryd.underlying22 hi054 hsz54 (some ad176) c0 l0 t191 (wrap64 (t191 + (wrap64 (t190)))) (of_decide_eq_true (by first | (with_reducible assumption) | assumption)) (by first | omega | exact of_decide_eq_true (by first | (with_reducible assumption) | assumption)) (of_decide_eq_true (by first | (with_reducible assumption) | assumption)) HC0.out; have HR196 := Aside0.mk (Kd.C_of_reads (h1 := fun _ => rfl) (hA54 _ (Kd.reads_of_C HR0.out))); have HC196 := Aside0.mk hC54; clear hA54 hC54 hi054 hsz54) | ((with_reducible refine gate_builtin (b := .append) (xs := #[.tmp 77, .tmp 84]) rfl ?_); (try (refine gate_guard (by rfl) ?_; dsimp only)); at_builtin; refine Kd.R_append_rows (Kd.int .u8) (w0 := w) w.heap.size rfl (.tmp 77) (.tmp 84) 22 5 (.int .u8 0) 1 rfl Tryd.underlying22 info5 rfl (by decide) (by omega) v194 y193 ((l0.take ((wrap64 (t191 + (wrap64 (t190)))) : Int).toNat).drop (t191 : Int).toNat) _ _ _ (fun _ => True) (fun _ => False) rfl rfl ?aO ?aR (fun _ _ h => h) (fun _ h => h.elim) ?aF ?aB ?aS ?aL ?_; (case aR => first | (rw [← show ((l0.take ((wrap64 (t191 + (wrap64 (t190)))) : Int).toNat).drop (t191 : Int).toNat).length = ((wrap64 (t191 + (wrap64 (t190)))).toNat - t191.toNat) from (by rw [List.length_drop, List.length_take]; have h_ : ((wrap64 (t191 + (wrap64 (t190)))) : Int) ≤ (l0.length : Int) := of_decide_eq_true (by first | (with_reducible assumption) | assumption); omega)]; repeat (first | exact (Kd.C_below HR196.out HB.out) | (with_reducible refine Kd.C_alloc ?_ _) | (with_reducible refine Kd.C_drewN ?_ _) | (with_reducible refine Kd.C_drew ?_))) | (repeat (first | exact (Kd.C_below HR196.out HB.out) | (with_reducible refine Kd.C_alloc ?_ _) | (with_reducible refine Kd.C_drewN ?_ _) | (with_reducible refine Kd.C_drew ?_)))); (case aB => exact (by repeat (first | (with_reducible first | exact HB.out | apply below_alloc | apply pw_below_drewN | apply below_drew1) | exact HB.out))); (case aF => exact (fun _ _ => trivial)); (case aO => exact (by (with_reducible repeat (first | apply Kd.R_alloc | apply Kd.R_drewN | apply Kd.R_drew)); exact HO195.out)); (case aS => exact (below_size (by repeat (first | (with_reducible first | exact HB.out | apply below_alloc | apply pw_below_drewN | apply below_drew1) | exact HB.out)))); (case aL => have := LMc48.out; have hlx_ := (show ((l0.take ((wrap64 (t191 + (wrap64 (t190)))) : Int).toNat).drop (t191 : Int).toNat).length = ((wrap64 (t191 + (wrap64 (t190)))).toNat - t191.toNat) from (by rw [List.length_drop, List.length_take]; have h_ : ((wrap64 (t191 + (wrap64 (t190)))) : Int) ≤ (l0.length : Int) := of_decide_eq_true (by first | (with_reducible assumption) | assumption); omega)); omega); intro v198 w55 ho hb hg hat; rw [← Ny197.out] at ho; have n0_ := Aside0.mk (Kd.S_after (ok := (fun _ => True)) (by (with_reducible repeat (first | apply Kd.S_alloc | apply Kd.S_drewN | apply Kd.S_drew)); exact HO_6.out) hg hat); have n1_ := Aside0.mk (hb); have n2_ := Aside0.mk (ho); clear HO_6; clear HB; clear HO195; have HO_6 := n0_; have HB := n1_; have HO199 := n2_; clear n0_ n1_ n2_; clear ho hb hg hat; obtain ⟨Ao56, co56, eo56⟩ := Kd.R_slice HO199.out; subst eo56) | ((with_reducible refine gate_builtin (b := .append) (xs := #[.tmp 74, .tmp 87]) rfl ?_); (try (refine gate_guard (by rfl) ?_; dsimp only)); at_builtin; refine Kd.S_append k34 (w0 := w) w.heap.size rfl (.tmp 74) (.tmp 87) 24 34 (.agg #[(.int .i64 0), (.int .i64 0), (.slice none 0 0)]) 40 rfl Tryd.underlying24 info34 rfl (by decide) (by omega) (.slice Ao50 x6_2.length co50) x6_2 (⟨(wrap64 (rd l0 x8_2)), t191, y197⟩ : S34) [.int .i64 (wrap64 (rd l0 x8_2)), .int .i64 t191, .slice Ao56 y197.length co56] (fun _ => True) (fun k_ => some k_ = (.slice Ao56 y197.length co56 : Value).ownBlock) rfl rfl ?aP (fun k_ hk_ => ((Kd.R_mono (ok' := fun k_ => ((fun _ => True)) k_ ∧ some k_ ≠ (.slice Ao50 x6_2.length co50 : Value).ownBlock) (Kd.R_apart' (HO199.out) (Kd.S_typed HO_6.out) (by decide)) (fun k_ hk => ⟨trivial, hk.2⟩))).1 k_ hk_.symm) ?aF ?aO ?aB ?aS ?aL ?_; (case aP => exact k34_mkM _ _ _ (⟨(wrap64 (rd l0 x8_2)), t191, y197⟩ : S34) (Kd.R_mono (Kd.R_tight rfl (Kd.R_mono (ok' := fun k_ => ((fun _ => True)) k_ ∧ some k_ ≠ (.slice Ao50 x6_2.length co50 : Value).ownBlock) (Kd.R_apart' (HO199.out) (Kd.S_typed HO_6.out) (by decide)) (fun k_ hk => ⟨trivial, hk.2⟩))) (fun _ h_ => h_))); (case aB => exact (by repeat (first | (with_reducible first | exact HB.out | apply below_alloc | apply pw_below_drewN | apply below_drew1) | exact HB.out))); (case aF => exact (fun _ _ => trivial)); (case aO => exact (by (with_reducible repeat (first | apply Kd.S_alloc | apply Kd.S_drewN | apply Kd.S_drew)); exact Kd.S_mono HO_6.out (fun k_ hk => ⟨trivial, fun e_ => hk.2 e_⟩))); (case aS => exact (below_size (by repeat (first | (with_reducible first | exact HB.out | apply below_alloc | apply pw_below_drewN | apply below_drew1) | exact HB.out)))); (case aL => have := LMc49.out; omega); intro v201 w57 ho hb hg hat; rw [← Ny200.out] at ho; have n0_ := Aside0.mk (hb); have n1_ := Aside0.mk (ho); clear HB; clear HO_6; clear HO199; have HB := n0_; have HO202 := n1_; clear n0_ n1_; clear ho hb hg hat)))
                                        go_roundg kj12
                                        case measure => have := HJ2.out; have := HK2.out; have := HJ12.out; omega
                                        case rel => exact ⟨(y200), ((wrap64 (rd l0 x8_2))), (wrap64 (t191 + (wrap64 (t190)))), (by first | rfl | (simp; done) | (simp [*]; done)), (by first | rfl | (simp; done) | (simp [*]; done)), H', ⟨by have := HJ2.out; have := HK2.out; have := HJ12.out; omega⟩, ⟨by (with_reducible repeat (first | apply Kd.S_alloc | apply Kd.S_drewN | apply Kd.S_drew)); exact HO202.out⟩, ⟨by repeat (first | (with_reducible first | exact HB.out | apply below_alloc | apply pw_below_drewN | apply below_drew1) | exact HB.out)⟩⟩
                                      · rw [if_neg c49] at H
                                        exact absurd H (by simp)
                                    · rw [if_neg c48] at H
                                      exact absurd H (by simp)
                                  · rw [if_neg c47] at H
                                    exact absurd H (by simp)
                                · rw [if_neg c46] at H
                                  exact absurd H (by simp)
                              · rw [if_neg c45] at H
                                exact absurd H (by simp)
                          · replace c41 := Bool.eq_false_iff.mpr c41
                            subst c41
                            have H1 : (some (([] : List (S34)), 2, wrap64 (x8_2 + 1))) = some (r1, r2, r3) := by rw [if_neg (show ¬ (false = true) by decide)] at H; exact H
                            clear H
                            have H := H1
                            clear H1
                            simp only [Option.some.injEq, Prod.mk.injEq] at H
                            obtain ⟨rfl, rfl, rfl⟩ := H
                            obtain ⟨Ao58, co58, eo58⟩ := Kd.S_slice HO_6.out
                            subst eo58
                            go_wp2_with (first | (go_at_call 21; (with_reducible refine (grommetref01_Read.calls kj12 _ _ l0 (wrap64 (x8_2 + 1)) 32 false t190 t191 false _ ?side1 ?side2 A40.out).mono ?_); (case side1 => repeat (first | exact (Kd.C_below HR0.out HB.out) | (with_reducible refine Kd.C_alloc ?_ _) | (with_reducible refine Kd.C_drewN ?_ _) | (with_reducible refine Kd.C_drew ?_))); (case side2 => exact HC0.out); rintro e w59 ⟨rfl, hb⟩; have n0_ := Aside0.mk (Kd.S_below (by (with_reducible repeat (first | apply Kd.S_alloc | apply Kd.S_drewN | apply Kd.S_drew)); exact HO_6.out) hb); have n1_ := Aside0.mk (below_step (by repeat (first | (with_reducible first | exact HB.out | apply below_alloc | apply pw_below_drewN | apply below_drew1) | exact HB.out)) hb); clear HO_6; clear HB; have HO_6 := n0_; have HB := n1_; clear n0_ n1_; (try clear hb); (try clear hb2); (try clear hk); (try clear hi)))
                            repeat (go_quiet (first | (go_at_call 21; (with_reducible refine (grommetref01_Read.calls kj12 _ _ l0 (wrap64 (x8_2 + 1)) 32 false t190 t191 false _ ?side1 ?side2 A40.out).mono ?_); (case side1 => repeat (first | exact (Kd.C_below HR0.out HB.out) | (with_reducible refine Kd.C_alloc ?_ _) | (with_reducible refine Kd.C_drewN ?_ _) | (with_reducible refine Kd.C_drew ?_))); (case side2 => exact HC0.out); rintro e w59 ⟨rfl, hb⟩; have n0_ := Aside0.mk (Kd.S_below (by (with_reducible repeat (first | apply Kd.S_alloc | apply Kd.S_drewN | apply Kd.S_drew)); exact HO_6.out) hb); have n1_ := Aside0.mk (below_step (by repeat (first | (with_reducible first | exact HB.out | apply below_alloc | apply pw_below_drewN | apply below_drew1) | exact HB.out)) hb); clear HO_6; clear HB; have HO_6 := n0_; have HB := n1_; clear n0_ n1_; (try clear hb); (try clear hb2); (try clear hk); (try clear hi))); try go_wp2_with (first | (go_at_call 21; (with_reducible refine (grommetref01_Read.calls kj12 _ _ l0 (wrap64 (x8_2 + 1)) 32 false t190 t191 false _ ?side1 ?side2 A40.out).mono ?_); (case side1 => repeat (first | exact (Kd.C_below HR0.out HB.out) | (with_reducible refine Kd.C_alloc ?_ _) | (with_reducible refine Kd.C_drewN ?_ _) | (with_reducible refine Kd.C_drew ?_))); (case side2 => exact HC0.out); rintro e w59 ⟨rfl, hb⟩; have n0_ := Aside0.mk (Kd.S_below (by (with_reducible repeat (first | apply Kd.S_alloc | apply Kd.S_drewN | apply Kd.S_drew)); exact HO_6.out) hb); have n1_ := Aside0.mk (below_step (by repeat (first | (with_reducible first | exact HB.out | apply below_alloc | apply pw_below_drewN | apply below_drew1) | exact HB.out)) hb); clear HO_6; clear HB; have HO_6 := n0_; have HB := n1_; clear n0_ n1_; (try clear hb); (try clear hb2); (try clear hk); (try clear hi))))
                            go_ret3
                            exact ⟨_, by first | rfl | (simp [errW_none, errW_some] <;> rfl) | (simp [*, errW_none, errW_some] <;> rfl), by first | exact Kd.S_nil _ _ _ _ _ | exact Kd.N_nil _ _ _ _ _ | exact Kd.V_nil _ _ _ _ _ | exact Kd.Q_nil _ _ _ _ _ | exact Kd.R_nil _ _ _ _ _, by repeat (first | (with_reducible first | exact HB.out | apply below_alloc | apply pw_below_drewN | apply below_drew1) | exact HB.out)⟩
              · rw [if_neg c12] at H
                exact absurd H (by simp)
            · rw [if_neg c11] at H
              have c11b0 : decide (x8_2 < (l0.length : Int)) = false := decide_eq_false c11
              clear c11
              simp only [Option.some.injEq, Prod.mk.injEq] at H
              obtain ⟨rfl, rfl, rfl⟩ := H
              go_wp2
              repeat (go_quiet (fail); try go_wp2)
              go_ret3
              exact ⟨_, by first | rfl | (simp [errW_none, errW_some] <;> rfl) | (simp [*, errW_none, errW_some] <;> rfl), by (with_reducible repeat (first | apply Kd.S_alloc | apply Kd.S_drewN | apply Kd.S_drew)); exact HO_6.out, by repeat (first | (with_reducible first | exact HB.out | apply below_alloc | apply pw_below_drewN | apply below_drew1) | exact HB.out)⟩

end Go.Proofs.YtibeoejnfpbcfaaDoor.RSectSplits
