-- Made by the program wip/patchprint.py (this session's own, over the kit's print)
import Derived.Test.YtibeoejnfpbcfaaDoorRSectSplitsx0
namespace Go.Proofs.YtibeoejnfpbcfaaDoor.RSectSplits
open Go.RowKit Go.Proofs.YtibeoejnfpbcfaaDoorW.PrintWords Go.Proofs.YtibeoejnfpbcfaaDoorW.PrintLast Go.Proofs.YtibeoejnfpbcfaaDoorW.PrintMore
attribute [local go_sem] max2_int min2_int max_two min_two max_three min_three max_four min_four   -- for this text's walks alone
set_option linter.unusedVariables false
set_option linter.unusedSimpArgs false
set_option linter.unnecessarySimpa false

attribute [local go_sem] err_eql err_neq err_nil_eql err_nil_neq
attribute [local simp] shl_zero
/-! ### grommetref01_digits: function 30 -/
mutual
def grommetref01_digits.l0 : Nat → List Int → Int → Int → List Int → Option (List Int × Int × Bool)
  | 0, _, _, _, _ => none
  | k + 1, x0, x1, x2, x9 => if (x9.length : Int) < x2 then (grommetref01_digits.j1 k x0 x1 x2 x9 (decide (x1 < (x0.length : Int)))) else (grommetref01_digits.j1 k x0 x1 x2 x9 false)
def grommetref01_digits.j1 : Nat → List Int → Int → Int → List Int → Bool → Option (List Int × Int × Bool)
  | 0, _, _, _, _, _ => none
  | k + 1, x0, x1, x2, x9, x19 => if x19 = true then (if 0 ≤ x1 then (if x1 < (x0.length : Int) then (if x9.length < 17592186044416 then ((some (x9 ++ [Int.tmod (wrap64 (rd x0 x1)) 128] : List Int)).bind fun y155 => (if 0 ≤ (wrap64 ((wrap64 (x1 + 1)) - 1)) then (if (wrap64 ((wrap64 (x1 + 1)) - 1)) < (x0.length : Int) then (if (rd x0 (wrap64 ((wrap64 (x1 + 1)) - 1))) < 128 then (some (y155, wrap64 (x1 + 1), true)) else (grommetref01_digits.l0 k x0 (wrap64 (x1 + 1)) x2 y155)) else (none)) else (none))) else (none)) else (none)) else (none)) else (some (([] : List Int), 0, false))
end
def grommetref01_digits.f (k : Nat) (l0 : List Int) (a1 : Int) (a2 : Int) : Option (List Int × Int × Bool) := grommetref01_digits.l0 k l0 a1 a2 ([] : List Int)
theorem grommetref01_digits.mono_l : ∀ k, (∀ y0 y1 y2 y3, LeO (grommetref01_digits.l0 k y0 y1 y2 y3) (grommetref01_digits.l0 (k + 1) y0 y1 y2 y3)) ∧ (∀ y0 y1 y2 y3 y4, LeO (grommetref01_digits.j1 k y0 y1 y2 y3 y4) (grommetref01_digits.j1 (k + 1) y0 y1 y2 y3 y4))
  | 0 => ⟨fun _ _ _ _ r h => by simp [grommetref01_digits.l0] at h, fun _ _ _ _ _ r h => by simp [grommetref01_digits.j1] at h⟩
  | k + 1 => by
    obtain ⟨ih0, ih1⟩ := grommetref01_digits.mono_l k
    refine ⟨?_, ?_⟩
    · intro y0 y1 y2 y3
      unfold grommetref01_digits.l0
      repeat' first
      | (with_reducible exact ih0 _ _ _ _)
      | (with_reducible exact ih1 _ _ _ _ _)
      | (with_reducible exact LeO.refl _)
      | (with_reducible exact LeO.none _)
      | (with_reducible refine LeO.ite ?_ ?_)
      | (with_reducible refine LeO.bind ?_ (fun _ => ?_))
      | exact ih0 _ _ _ _
      | exact ih1 _ _ _ _ _
      | exact LeO.none _
      | refine LeO.ite ?_ ?_
      | refine LeO.bind ?_ (fun _ => ?_)
    · intro y0 y1 y2 y3 y4
      unfold grommetref01_digits.j1
      repeat' first
      | (with_reducible exact ih0 _ _ _ _)
      | (with_reducible exact ih1 _ _ _ _ _)
      | (with_reducible exact LeO.refl _)
      | (with_reducible exact LeO.none _)
      | (with_reducible refine LeO.ite ?_ ?_)
      | (with_reducible refine LeO.bind ?_ (fun _ => ?_))
      | exact ih0 _ _ _ _
      | exact ih1 _ _ _ _ _
      | exact LeO.none _
      | refine LeO.ite ?_ ?_
      | refine LeO.bind ?_ (fun _ => ?_)
theorem grommetref01_digits.mono : ∀ a0 a1 a2 k, LeO (grommetref01_digits.f k a0 a1 a2) (grommetref01_digits.f (k + 1) a0 a1 a2) := by
  intro a0 a1 a2 k
  obtain ⟨ih0, ih1⟩ := grommetref01_digits.mono_l k
  unfold grommetref01_digits.f
  repeat' first
      | (with_reducible exact ih0 _ _ _ _)
      | (with_reducible exact ih1 _ _ _ _ _)
      | (with_reducible exact LeO.refl _)
      | (with_reducible exact LeO.none _)
      | (with_reducible refine LeO.ite ?_ ?_)
      | (with_reducible refine LeO.bind ?_ (fun _ => ?_))
      | exact ih0 _ _ _ _
      | exact ih1 _ _ _ _ _
      | exact LeO.none _
      | refine LeO.ite ?_ ?_
      | refine LeO.bind ?_ (fun _ => ?_)
set_option maxHeartbeats 8000000 in
set_option maxRecDepth 100000 in
theorem grommetref01_digits.calls (k : Nat) (A0 : Option Addr) (c0 : Nat) (l0 : List Int) (a1 : Int) (a2 : Int) (r1 : List Int) (r2 : Int) (r3 : Bool) (w : World) (hr0 : Kd.C (Kd.int .u8) w A0 l0.length l0) (hc0 : l0.length ≤ c0) (h : grommetref01_digits.f k l0 a1 a2 = some (r1, r2, r3)) :
    Calls Tryd.prog 30 #[.slice A0 l0.length c0, .int .i64 a1, .int .i64 a2] w fun e w' => ∃ v0_ : Value, e = .returned (.tuple #[v0_, .int .i64 r2, .bool r3]) ∧ Kd.R (Kd.int .i64) 3 w' w.heap.size (fun _ => True) v0_ r1 ∧ Below w.heap.size w w' := by
  have HR0 := Aside0.mk hr0
  have HC0 := Aside0.mk hc0
  clear hr0 hc0
  have HB := Aside0.mk (Below.refl w.heap.size w)
  have H : (grommetref01_digits.l0 k l0 a1 a2 ([] : List Int)) = some (r1, r2, r3) := h
  clear h
  have H' := Aside0.mk H
  clear H
  go_enter Tryd.func30, Tryd.ntmps30
  go_wp2
  go_loopg [1, 9] k (fun kq v1 v9 w' => ∃ (x1_1 : Int) (x9_1 : List Int), v1 = .int .i64 x1_1 ∧ Aside0 (grommetref01_digits.l0 kq l0 x1_1 a2 x9_1 = some (r1, r2, r3)) ∧ Aside0 (kq ≤ k) ∧ Aside0 (Kd.R (Kd.int .i64) 3 w' w.heap.size (fun _ => True) v9 x9_1) ∧ Aside0 (Below w.heap.size w w'))
  case atStart => exact ⟨(a1), (([] : List Int)), (by first | rfl | (simp; done) | (simp [*]; done)), H', ⟨Nat.le_refl _⟩, ⟨by first | exact Kd.R_nil _ _ _ _ _ | exact Kd.N_nil _ _ _ _ _ | exact Kd.V_nil _ _ _ _ _ | exact Kd.Q_nil _ _ _ _ _ | exact Kd.S_nil _ _ _ _ _⟩, ⟨by repeat (first | (with_reducible first | exact HB.out | apply below_alloc | apply pw_below_drewN | apply below_drew1) | exact HB.out)⟩⟩
  case round =>
    clear H'
    try clear p2
    try clear c3
    obtain ⟨x1_1, x9_1, rfl, HA, HK1, HO_9, HB⟩ := hrel
    cases gk with
    | zero => exact absurd HA.out (by simp [grommetref01_digits.l0])
    | succ k1 =>
      have H := HA.out
      clear HA
      simp only [grommetref01_digits.l0] at H
      have HC4 := Aside0.mk H
      clear H
      go_upto_region 2 with (fail)
      go_cut [19] (fun v19 wc => ∃ (kq : Nat) (x19_3 : Bool), v19 = .bool x19_3 ∧ Aside0 (grommetref01_digits.j1 kq l0 x1_1 a2 x9_1 x19_3 = some (r1, r2, r3)) ∧ Aside0 (kq ≤ k1) ∧ Aside0 (Kd.R (Kd.int .i64) 3 wc w.heap.size (fun _ => True) u9 x9_1) ∧ Aside0 (Below w.heap.size w wc))
      case first =>
        have H := HC4.out
        clear HC4
        by_cases c5 : (x9_1.length : Int) < a2
        · rw [if_pos c5] at H
          have c5b0 : decide ((x9_1.length : Int) < a2) = true := decide_eq_true c5
          clear c5
          (first | rw [c5b0] | (simp only [i64_w, i32_w]; rw [c5b0]) | skip)
          have H' := Aside0.mk H
          clear H
          obtain ⟨Ao6, co6, eo6⟩ := Kd.R_slice HO_9.out
          subst eo6
          go_wp2
          go_meet
          case rel => exact ⟨_, (decide (x1_1 < (l0.length : Int))), (by first | rfl | (simp; done) | (simp [*]; done)), H', ⟨by have := HK1.out; first | omega | exact Nat.le_refl _⟩, ⟨by (with_reducible repeat (first | apply Kd.R_alloc | apply Kd.R_drewN | apply Kd.R_drew)); exact HO_9.out⟩, ⟨by repeat (first | (with_reducible first | exact HB.out | apply below_alloc | apply pw_below_drewN | apply below_drew1) | exact HB.out)⟩⟩
        · rw [if_neg c5] at H
          have c5b0 : decide ((x9_1.length : Int) < a2) = false := decide_eq_false c5
          clear c5
          (first | rw [c5b0] | (simp only [i64_w, i32_w]; rw [c5b0]) | skip)
          have H' := Aside0.mk H
          clear H
          obtain ⟨Ao7, co7, eo7⟩ := Kd.R_slice HO_9.out
          subst eo7
          go_wp2
          go_meet
          case rel => exact ⟨_, (false), (by first | rfl | (simp; done) | (simp [*]; done)), H', ⟨by have := HK1.out; first | omega | exact Nat.le_refl _⟩, ⟨by (with_reducible repeat (first | apply Kd.R_alloc | apply Kd.R_drewN | apply Kd.R_drew)); exact HO_9.out⟩, ⟨by repeat (first | (with_reducible first | exact HB.out | apply below_alloc | apply pw_below_drewN | apply below_drew1) | exact HB.out)⟩⟩
      case rest =>
        clear HC4
        try clear p2
        try clear c3
        try clear c5
        try clear c5b0
        try clear p2
        obtain ⟨kq, x19_3, rfl, HA, HJ3, HO_9, HB⟩ := hcut
        cases kq with
        | zero => exact absurd HA.out (by simp [grommetref01_digits.j1])
        | succ kj3 =>
          have H := HA.out
          clear HA
          simp only [grommetref01_digits.j1] at H
          by_cases c8 : x19_3 = true
          · subst c8
            have H1 : (if 0 ≤ x1_1 then (if x1_1 < (l0.length : Int) then (if x9_1.length < 17592186044416 then ((some (x9_1 ++ [Int.tmod (wrap64 (rd l0 x1_1)) 128] : List Int)).bind fun y155 => (if 0 ≤ (wrap64 ((wrap64 (x1_1 + 1)) - 1)) then (if (wrap64 ((wrap64 (x1_1 + 1)) - 1)) < (l0.length : Int) then (if (rd l0 (wrap64 ((wrap64 (x1_1 + 1)) - 1))) < 128 then (some (y155, wrap64 (x1_1 + 1), true)) else (grommetref01_digits.l0 kj3 l0 (wrap64 (x1_1 + 1)) a2 y155)) else (none)) else (none))) else (none)) else (none)) else (none)) = some (r1, r2, r3) := by rw [if_pos rfl] at H; exact H
            clear H
            have H := H1
            clear H1
            by_cases c9 : 0 ≤ x1_1
            · rw [if_pos c9] at H
              have c9b0 : decide (0 ≤ x1_1) = true := decide_eq_true c9
              clear c9
              by_cases c10 : x1_1 < (l0.length : Int)
              · rw [if_pos c10] at H
                have c10b0 : decide (x1_1 < (l0.length : Int)) = true := decide_eq_true c10
                clear c10
                by_cases c11 : x9_1.length < 17592186044416
                · rw [if_pos c11] at H
                  have LMc11 := Aside0.mk c11
                  clear c11
                  obtain ⟨y155, hy155⟩ : ∃ y_ : List Int, y_ = (x9_1 ++ [Int.tmod (wrap64 (rd l0 x1_1)) 128]) := ⟨_, rfl⟩
                  replace H : (if 0 ≤ (wrap64 ((wrap64 (x1_1 + 1)) - 1)) then (if (wrap64 ((wrap64 (x1_1 + 1)) - 1)) < (l0.length : Int) then (if (rd l0 (wrap64 ((wrap64 (x1_1 + 1)) - 1))) < 128 then (some (y155, wrap64 (x1_1 + 1), true)) else (grommetref01_digits.l0 kj3 l0 (wrap64 (x1_1 + 1)) a2 y155)) else (none)) else (none)) = some (r1, r2, r3) := by first | (rw [hy155]; with_reducible exact H) | (have H2_ := (Option.bind_some _ _).symm.trans H; rw [hy155]; with_reducible exact H2_) | (have H2_ := (Option.bind_some _ _).symm.trans H; with_reducible exact H2_) | with_reducible exact H | (rw [hy155]; exact H) | exact H
                  have Ny155 := Aside0.mk hy155
                  clear hy155
                  obtain ⟨ji12, hji12⟩ : ∃ j_ : Int, (wrap64 ((wrap64 (x1_1 + 1)) - 1)) = j_ := ⟨_, rfl⟩
                  replace H : (if 0 ≤ (ji12) then (if (ji12) < (l0.length : Int) then (if (rd l0 (ji12)) < 128 then (some (y155, wrap64 (x1_1 + 1), true)) else (grommetref01_digits.l0 kj3 l0 (wrap64 (x1_1 + 1)) a2 y155)) else (none)) else (none)) = some (r1, r2, r3) := by first | (rw [hji12] at H; exact H) | (simp only [hji12] at H ⊢; exact H)
                  have hji12w : (IntKind.i64.wrap ((wrap64 (x1_1 + 1)) - 1)) = ji12 := (i64_w _).trans hji12
                  by_cases c13 : 0 ≤ (ji12)
                  · rw [if_pos c13] at H
                    have c13b0 : decide (0 ≤ (ji12)) = true := decide_eq_true c13
                    clear c13
                    by_cases c14 : (ji12) < (l0.length : Int)
                    · rw [if_pos c14] at H
                      have c14b0 : decide ((ji12) < (l0.length : Int)) = true := decide_eq_true c14
                      clear c14
                      by_cases c15 : (rd l0 (ji12)) < 128
                      · rw [if_pos c15] at H
                        have c15b0 : decide ((rd l0 (ji12)) < 128) = true := decide_eq_true c15
                        clear c15
                        simp only [Option.some.injEq, Prod.mk.injEq] at H
                        obtain ⟨rfl, rfl, rfl⟩ := H
                        have p154 : 0 ≤ (x1_1 : Int) := of_decide_eq_true (by first | (with_reducible assumption) | assumption)
                        have q154 : x1_1 < (l0.length : Int) := of_decide_eq_true (by first | (with_reducible assumption) | assumption)
                        obtain ⟨ad154, e154, hx154_0⟩ := Kd.at_int HR0.out x1_1 p154 q154
                        cases e154
                        replace hx154_0 := (HB.out.cell (World.block_lt_of_cell? w _ hx154_0)).trans hx154_0
                        replace p154 := eq_true p154
                        replace q154 := eq_true q154
                        go_wp2_with (first | ((with_reducible refine gate_builtin (b := .append) (xs := #[.tmp 20, .tmp 27]) rfl ?_); (try (refine gate_guard (by rfl) ?_; dsimp only)); at_builtin; refine Kd.R_append (Kd.int .i64) (w0 := w) w.heap.size rfl (.tmp 20) (.tmp 27) 65 3 (.int .i64 0) 8 rfl Tryd.underlying65 info3 rfl (by decide) (by omega) u9 x9_1 (Int.tmod (wrap64 (rd l0 x1_1)) 128) [.int .i64 (Int.tmod (wrap64 (rd l0 x1_1)) 128)] (fun _ => True) (fun _ => False) rfl rfl ?aP (fun _ hk => hk.elim) ?aF ?aO ?aB ?aS ?aL ?_; (case aP => exact rfl); (case aB => exact (by repeat (first | (with_reducible first | exact HB.out | apply below_alloc | apply pw_below_drewN | apply below_drew1) | exact HB.out))); (case aF => exact (fun _ _ => trivial)); (case aO => exact (by (with_reducible repeat (first | apply Kd.R_alloc | apply Kd.R_drewN | apply Kd.R_drew)); exact HO_9.out)); (case aS => exact (below_size (by repeat (first | (with_reducible first | exact HB.out | apply below_alloc | apply pw_below_drewN | apply below_drew1) | exact HB.out)))); (case aL => have := LMc11.out; omega); intro v156 w16 ho hb hg hat; rw [← Ny155.out] at ho; have n0_ := Aside0.mk (hb); have n1_ := Aside0.mk (ho); clear HB; clear HO_9; have HB := n0_; have HO157 := n1_; clear n0_ n1_; clear ho hb hg hat; have p158 : 0 ≤ ((ji12) : Int) := of_decide_eq_true (by first | (with_reducible assumption) | assumption); have q158 : (ji12) < (l0.length : Int) := of_decide_eq_true (by first | (with_reducible assumption) | assumption); obtain ⟨ad158, e158, hx158_0⟩ := Kd.at_int HR0.out (ji12) p158 q158; obtain rfl : ad154 = ad158 := (by injection e158); replace hx158_0 := (HB.out.cell (World.block_lt_of_cell? w _ hx158_0)).trans hx158_0; replace p158 := eq_true p158; replace q158 := eq_true q158))
                        go_ret3
                        exact ⟨_, by first | rfl | (simp [errW_none, errW_some] <;> rfl) | (simp only [← hji12]; first | rfl | (simp [errW_none, errW_some] <;> rfl)) | (simp [*, errW_none, errW_some] <;> rfl), by (with_reducible repeat (first | apply Kd.R_alloc | apply Kd.R_drewN | apply Kd.R_drew)); exact HO157.out, by repeat (first | (with_reducible first | exact HB.out | apply below_alloc | apply pw_below_drewN | apply below_drew1) | exact HB.out)⟩
                      · rw [if_neg c15] at H
                        have c15b0 : decide ((rd l0 (ji12)) < 128) = false := decide_eq_false c15
                        clear c15
                        have H' := Aside0.mk H
                        clear H
                        have p154 : 0 ≤ (x1_1 : Int) := of_decide_eq_true (by first | (with_reducible assumption) | assumption)
                        have q154 : x1_1 < (l0.length : Int) := of_decide_eq_true (by first | (with_reducible assumption) | assumption)
                        obtain ⟨ad154, e154, hx154_0⟩ := Kd.at_int HR0.out x1_1 p154 q154
                        cases e154
                        replace hx154_0 := (HB.out.cell (World.block_lt_of_cell? w _ hx154_0)).trans hx154_0
                        replace p154 := eq_true p154
                        replace q154 := eq_true q154
                        go_wp2_with (first | ((with_reducible refine gate_builtin (b := .append) (xs := #[.tmp 20, .tmp 27]) rfl ?_); (try (refine gate_guard (by rfl) ?_; dsimp only)); at_builtin; refine Kd.R_append (Kd.int .i64) (w0 := w) w.heap.size rfl (.tmp 20) (.tmp 27) 65 3 (.int .i64 0) 8 rfl Tryd.underlying65 info3 rfl (by decide) (by omega) u9 x9_1 (Int.tmod (wrap64 (rd l0 x1_1)) 128) [.int .i64 (Int.tmod (wrap64 (rd l0 x1_1)) 128)] (fun _ => True) (fun _ => False) rfl rfl ?aP (fun _ hk => hk.elim) ?aF ?aO ?aB ?aS ?aL ?_; (case aP => exact rfl); (case aB => exact (by repeat (first | (with_reducible first | exact HB.out | apply below_alloc | apply pw_below_drewN | apply below_drew1) | exact HB.out))); (case aF => exact (fun _ _ => trivial)); (case aO => exact (by (with_reducible repeat (first | apply Kd.R_alloc | apply Kd.R_drewN | apply Kd.R_drew)); exact HO_9.out)); (case aS => exact (below_size (by repeat (first | (with_reducible first | exact HB.out | apply below_alloc | apply pw_below_drewN | apply below_drew1) | exact HB.out)))); (case aL => have := LMc11.out; omega); intro v156 w17 ho hb hg hat; rw [← Ny155.out] at ho; have n0_ := Aside0.mk (hb); have n1_ := Aside0.mk (ho); clear HB; clear HO_9; have HB := n0_; have HO157 := n1_; clear n0_ n1_; clear ho hb hg hat; have p158 : 0 ≤ ((ji12) : Int) := of_decide_eq_true (by first | (with_reducible assumption) | assumption); have q158 : (ji12) < (l0.length : Int) := of_decide_eq_true (by first | (with_reducible assumption) | assumption); obtain ⟨ad158, e158, hx158_0⟩ := Kd.at_int HR0.out (ji12) p158 q158; obtain rfl : ad154 = ad158 := (by injection e158); replace hx158_0 := (HB.out.cell (World.block_lt_of_cell? w _ hx158_0)).trans hx158_0; replace p158 := eq_true p158; replace q158 := eq_true q158))
                        go_roundg kj3
                        case measure => have := HK1.out; have := HJ3.out; omega
                        case rel => exact ⟨(wrap64 (x1_1 + 1)), (y155), (by first | rfl | (simp; done) | (simp [*]; done)), H', ⟨by have := HK1.out; have := HJ3.out; omega⟩, ⟨by (with_reducible repeat (first | apply Kd.R_alloc | apply Kd.R_drewN | apply Kd.R_drew)); exact HO157.out⟩, ⟨by repeat (first | (with_reducible first | exact HB.out | apply below_alloc | apply pw_below_drewN | apply below_drew1) | exact HB.out)⟩⟩
                    · rw [if_neg c14] at H
                      exact absurd H (by simp)
                  · rw [if_neg c13] at H
                    exact absurd H (by simp)
                · rw [if_neg c11] at H
                  exact absurd H (by simp)
              · rw [if_neg c10] at H
                exact absurd H (by simp)
            · rw [if_neg c9] at H
              exact absurd H (by simp)
          · replace c8 := Bool.eq_false_iff.mpr c8
            subst c8
            have H1 : (some (([] : List Int), 0, false)) = some (r1, r2, r3) := by rw [if_neg (show ¬ (false = true) by decide)] at H; exact H
            clear H
            have H := H1
            clear H1
            simp only [Option.some.injEq, Prod.mk.injEq] at H
            obtain ⟨rfl, rfl, rfl⟩ := H
            go_wp2
            go_ret3
            exact ⟨_, by first | rfl | (simp [errW_none, errW_some] <;> rfl) | (simp [*, errW_none, errW_some] <;> rfl), by first | exact Kd.R_nil _ _ _ _ _ | exact Kd.N_nil _ _ _ _ _ | exact Kd.V_nil _ _ _ _ _ | exact Kd.Q_nil _ _ _ _ _ | exact Kd.S_nil _ _ _ _ _, by repeat (first | (with_reducible first | exact HB.out | apply below_alloc | apply pw_below_drewN | apply below_drew1) | exact HB.out)⟩

/-! ### grommetref01_Read: function 21 -/
mutual
def grommetref01_Read.l0 : Nat → Int → Bool → List Int → Int → List Int → Int → Option (Int × Int × Bool)
  | 0, _, _, _, _, _, _ => none
  | k + 1, x2, x3, x12, x13, x15, x16 => if x16 < (x12.length : Int) then (if 0 ≤ x16 then (grommetref01_Read.l1 k x2 x3 x12 x13 x15 x16 (rd x12 x16) 0) else (none)) else (if x3 = true then (if 0 ≤ (wrap64 ((x15.length : Int) - 1)) then (if (wrap64 ((x15.length : Int) - 1)) < (x15.length : Int) then (if (x15.length : Int) > x2 then (if 0 ≤ (wrap64 (x2 - 1)) then (if (wrap64 (x2 - 1)) < (x15.length : Int) then (grommetref01_Read.j2 k x2 x13 x15 (rd x15 (wrap64 (x2 - 1)))) else (none)) else (none)) else (grommetref01_Read.j2 k x2 x13 x15 (rd x15 (wrap64 ((x15.length : Int) - 1))))) else (none)) else (none)) else (grommetref01_Read.j2 k x2 x13 x15 0))
def grommetref01_Read.l1 : Nat → Int → Bool → List Int → Int → List Int → Int → Int → Int → Option (Int × Int × Bool)
  | 0, _, _, _, _, _, _, _, _ => none
  | k + 1, x2, x3, x12, x13, x15, x16, x17, x18 => if x18 < 7 then (if x15.length < 17592186044416 then (grommetref01_Read.l1 k x2 x3 x12 x13 (x15 ++ [Int.tmod x17 2]) x16 (wrap64 (Int.tdiv x17 2)) (wrap64 (x18 + 1))) else (none)) else (grommetref01_Read.l0 k x2 x3 x12 x13 x15 (wrap64 (x16 + 1)))
def grommetref01_Read.j2 : Nat → Int → Int → List Int → Int → Option (Int × Int × Bool)
  | 0, _, _, _, _ => none
  | k + 1, x2, x13, x15, x19 => grommetref01_Read.l2 k x2 x13 x15 x19 x2
def grommetref01_Read.l2 : Nat → Int → Int → List Int → Int → Int → Option (Int × Int × Bool)
  | 0, _, _, _, _, _ => none
  | k + 1, x2, x13, x15, x19, x20 => if x20 < (x15.length : Int) then (if 0 ≤ x20 then (if (rd x15 x20) = x19 then (grommetref01_Read.l2 k x2 x13 x15 x19 (wrap64 (x20 + 1))) else (some (0, 0, false))) else (none)) else (grommetref01_Read.l3 k x2 x13 x15 x19 0 63)
def grommetref01_Read.l3 : Nat → Int → Int → List Int → Int → Int → Int → Option (Int × Int × Bool)
  | 0, _, _, _, _, _, _ => none
  | k + 1, x2, x13, x15, x19, x21, x22 => if x22 ≥ 0 then (if x22 < (x15.length : Int) then (if x22 < x2 then (if 0 ≤ x22 then (grommetref01_Read.l3 k x2 x13 x15 x19 (IntKind.u64.wrap ((IntKind.u64.wrap (x21 * 2)) + (IntKind.u64.wrap (rd x15 x22)))) (wrap64 (x22 - 1))) else (none)) else (grommetref01_Read.l3 k x2 x13 x15 x19 (IntKind.u64.wrap ((IntKind.u64.wrap (x21 * 2)) + (IntKind.u64.wrap (x19)))) (wrap64 (x22 - 1)))) else (grommetref01_Read.l3 k x2 x13 x15 x19 (IntKind.u64.wrap ((IntKind.u64.wrap (x21 * 2)) + (IntKind.u64.wrap (x19)))) (wrap64 (x22 - 1)))) else (some (x21, x13, true))
end
def grommetref01_Read.f (k : Nat) (l0 : List Int) (a1 : Int) (a2 : Int) (a3 : Bool) : Option (Int × Int × Bool) := (grommetref01_digits.f k l0 a1 (wrap64 (Int.tdiv (wrap64 (a2 + 6)) 7))).bind fun bt159 => (if bt159.2.2 = true then (grommetref01_Read.l0 k a2 a3 bt159.1 bt159.2.1 ([] : List Int) 0) else (some (0, 0, false)))
theorem grommetref01_Read.mono_l : ∀ k, (∀ y0 y1 y2 y3 y4 y5, LeO (grommetref01_Read.l0 k y0 y1 y2 y3 y4 y5) (grommetref01_Read.l0 (k + 1) y0 y1 y2 y3 y4 y5)) ∧ (∀ y0 y1 y2 y3 y4 y5 y6 y7, LeO (grommetref01_Read.l1 k y0 y1 y2 y3 y4 y5 y6 y7) (grommetref01_Read.l1 (k + 1) y0 y1 y2 y3 y4 y5 y6 y7)) ∧ (∀ y0 y1 y2 y3, LeO (grommetref01_Read.j2 k y0 y1 y2 y3) (grommetref01_Read.j2 (k + 1) y0 y1 y2 y3)) ∧ (∀ y0 y1 y2 y3 y4, LeO (grommetref01_Read.l2 k y0 y1 y2 y3 y4) (grommetref01_Read.l2 (k + 1) y0 y1 y2 y3 y4)) ∧ (∀ y0 y1 y2 y3 y4 y5, LeO (grommetref01_Read.l3 k y0 y1 y2 y3 y4 y5) (grommetref01_Read.l3 (k + 1) y0 y1 y2 y3 y4 y5))
  | 0 => ⟨fun _ _ _ _ _ _ r h => by simp [grommetref01_Read.l0] at h, fun _ _ _ _ _ _ _ _ r h => by simp [grommetref01_Read.l1] at h, fun _ _ _ _ r h => by simp [grommetref01_Read.j2] at h, fun _ _ _ _ _ r h => by simp [grommetref01_Read.l2] at h, fun _ _ _ _ _ _ r h => by simp [grommetref01_Read.l3] at h⟩
  | k + 1 => by
    obtain ⟨ih0, ih1, ih2, ih3, ih4⟩ := grommetref01_Read.mono_l k
    refine ⟨?_, ?_, ?_, ?_, ?_⟩
    · intro y0 y1 y2 y3 y4 y5
      unfold grommetref01_Read.l0
      repeat' first
      | (with_reducible exact ih0 _ _ _ _ _ _)
      | (with_reducible exact ih1 _ _ _ _ _ _ _ _)
      | (with_reducible exact ih2 _ _ _ _)
      | (with_reducible exact ih3 _ _ _ _ _)
      | (with_reducible exact ih4 _ _ _ _ _ _)
      | (with_reducible exact grommetref01_digits.mono _ _ _ _)
      | (with_reducible exact LeO.refl _)
      | (with_reducible exact LeO.none _)
      | (with_reducible refine LeO.ite ?_ ?_)
      | (with_reducible refine LeO.bind ?_ (fun _ => ?_))
      | exact ih0 _ _ _ _ _ _
      | exact ih1 _ _ _ _ _ _ _ _
      | exact ih2 _ _ _ _
      | exact ih3 _ _ _ _ _
      | exact ih4 _ _ _ _ _ _
      | exact grommetref01_digits.mono _ _ _ _
      | exact LeO.none _
      | refine LeO.ite ?_ ?_
      | refine LeO.bind ?_ (fun _ => ?_)
    · intro y0 y1 y2 y3 y4 y5 y6 y7
      unfold grommetref01_Read.l1
      repeat' first
      | (with_reducible exact ih0 _ _ _ _ _ _)
      | (with_reducible exact ih1 _ _ _ _ _ _ _ _)
      | (with_reducible exact ih2 _ _ _ _)
      | (with_reducible exact ih3 _ _ _ _ _)
      | (with_reducible exact ih4 _ _ _ _ _ _)
      | (with_reducible exact grommetref01_digits.mono _ _ _ _)
      | (with_reducible exact LeO.refl _)
      | (with_reducible exact LeO.none _)
      | (with_reducible refine LeO.ite ?_ ?_)
      | (with_reducible refine LeO.bind ?_ (fun _ => ?_))
      | exact ih0 _ _ _ _ _ _
      | exact ih1 _ _ _ _ _ _ _ _
      | exact ih2 _ _ _ _
      | exact ih3 _ _ _ _ _
      | exact ih4 _ _ _ _ _ _
      | exact grommetref01_digits.mono _ _ _ _
      | exact LeO.none _
      | refine LeO.ite ?_ ?_
      | refine LeO.bind ?_ (fun _ => ?_)
    · intro y0 y1 y2 y3
      unfold grommetref01_Read.j2
      repeat' first
      | (with_reducible exact ih0 _ _ _ _ _ _)
      | (with_reducible exact ih1 _ _ _ _ _ _ _ _)
      | (with_reducible exact ih2 _ _ _ _)
      | (with_reducible exact ih3 _ _ _ _ _)
      | (with_reducible exact ih4 _ _ _ _ _ _)
      | (with_reducible exact grommetref01_digits.mono _ _ _ _)
      | (with_reducible exact LeO.refl _)
      | (with_reducible exact LeO.none _)
      | (with_reducible refine LeO.ite ?_ ?_)
      | (with_reducible refine LeO.bind ?_ (fun _ => ?_))
      | exact ih0 _ _ _ _ _ _
      | exact ih1 _ _ _ _ _ _ _ _
      | exact ih2 _ _ _ _
      | exact ih3 _ _ _ _ _
      | exact ih4 _ _ _ _ _ _
      | exact grommetref01_digits.mono _ _ _ _
      | exact LeO.none _
      | refine LeO.ite ?_ ?_
      | refine LeO.bind ?_ (fun _ => ?_)
    · intro y0 y1 y2 y3 y4
      unfold grommetref01_Read.l2
      repeat' first
      | (with_reducible exact ih0 _ _ _ _ _ _)
      | (with_reducible exact ih1 _ _ _ _ _ _ _ _)
      | (with_reducible exact ih2 _ _ _ _)
      | (with_reducible exact ih3 _ _ _ _ _)
      | (with_reducible exact ih4 _ _ _ _ _ _)
      | (with_reducible exact grommetref01_digits.mono _ _ _ _)
      | (with_reducible exact LeO.refl _)
      | (with_reducible exact LeO.none _)
      | (with_reducible refine LeO.ite ?_ ?_)
      | (with_reducible refine LeO.bind ?_ (fun _ => ?_))
      | exact ih0 _ _ _ _ _ _
      | exact ih1 _ _ _ _ _ _ _ _
      | exact ih2 _ _ _ _
      | exact ih3 _ _ _ _ _
      | exact ih4 _ _ _ _ _ _
      | exact grommetref01_digits.mono _ _ _ _
      | exact LeO.none _
      | refine LeO.ite ?_ ?_
      | refine LeO.bind ?_ (fun _ => ?_)
    · intro y0 y1 y2 y3 y4 y5
      unfold grommetref01_Read.l3
      repeat' first
      | (with_reducible exact ih0 _ _ _ _ _ _)
      | (with_reducible exact ih1 _ _ _ _ _ _ _ _)
      | (with_reducible exact ih2 _ _ _ _)
      | (with_reducible exact ih3 _ _ _ _ _)
      | (with_reducible exact ih4 _ _ _ _ _ _)
      | (with_reducible exact grommetref01_digits.mono _ _ _ _)
      | (with_reducible exact LeO.refl _)
      | (with_reducible exact LeO.none _)
      | (with_reducible refine LeO.ite ?_ ?_)
      | (with_reducible refine LeO.bind ?_ (fun _ => ?_))
      | exact ih0 _ _ _ _ _ _
      | exact ih1 _ _ _ _ _ _ _ _
      | exact ih2 _ _ _ _
      | exact ih3 _ _ _ _ _
      | exact ih4 _ _ _ _ _ _
      | exact grommetref01_digits.mono _ _ _ _
      | exact LeO.none _
      | refine LeO.ite ?_ ?_
      | refine LeO.bind ?_ (fun _ => ?_)
theorem grommetref01_Read.mono : ∀ a0 a1 a2 a3 k, LeO (grommetref01_Read.f k a0 a1 a2 a3) (grommetref01_Read.f (k + 1) a0 a1 a2 a3) := by
  intro a0 a1 a2 a3 k
  obtain ⟨ih0, ih1, ih2, ih3, ih4⟩ := grommetref01_Read.mono_l k
  unfold grommetref01_Read.f
  repeat' first
      | (with_reducible exact ih0 _ _ _ _ _ _)
      | (with_reducible exact ih1 _ _ _ _ _ _ _ _)
      | (with_reducible exact ih2 _ _ _ _)
      | (with_reducible exact ih3 _ _ _ _ _)
      | (with_reducible exact ih4 _ _ _ _ _ _)
      | (with_reducible exact grommetref01_digits.mono _ _ _ _)
      | (with_reducible exact LeO.refl _)
      | (with_reducible exact LeO.none _)
      | (with_reducible refine LeO.ite ?_ ?_)
      | (with_reducible refine LeO.bind ?_ (fun _ => ?_))
      | exact ih0 _ _ _ _ _ _
      | exact ih1 _ _ _ _ _ _ _ _
      | exact ih2 _ _ _ _
      | exact ih3 _ _ _ _ _
      | exact ih4 _ _ _ _ _ _
      | exact grommetref01_digits.mono _ _ _ _
      | exact LeO.none _
      | refine LeO.ite ?_ ?_
      | refine LeO.bind ?_ (fun _ => ?_)
set_option maxHeartbeats 8000000 in
set_option maxRecDepth 100000 in
theorem grommetref01_Read.calls (k : Nat) (A0 : Option Addr) (c0 : Nat) (l0 : List Int) (a1 : Int) (a2 : Int) (a3 : Bool) (r1 : Int) (r2 : Int) (r3 : Bool) (w : World) (hr0 : Kd.C (Kd.int .u8) w A0 l0.length l0) (hc0 : l0.length ≤ c0) (h : grommetref01_Read.f k l0 a1 a2 a3 = some (r1, r2, r3)) :
    Calls Tryd.prog 21 #[.slice A0 l0.length c0, .int .i64 a1, .int .i64 a2, .bool a3] w fun e w' => e = .returned (.tuple #[.int .u64 r1, .int .i64 r2, .bool r3]) ∧ Below w.heap.size w w' := by
  have HR0 := Aside0.mk hr0
  have HC0 := Aside0.mk hc0
  clear hr0 hc0
  have HB := Aside0.mk (Below.refl w.heap.size w)
  have H : ((grommetref01_digits.f k l0 a1 (wrap64 (Int.tdiv (wrap64 (a2 + 6)) 7))).bind fun bt159 => (if bt159.2.2 = true then (grommetref01_Read.l0 k a2 a3 bt159.1 bt159.2.1 ([] : List Int) 0) else (some (0, 0, false)))) = some (r1, r2, r3) := h
  clear h
  replace H := Option.bind_eq_some_iff.mp H
  obtain ⟨⟨t159, t160, t161⟩, A50, H⟩ := H
  replace H : (if t161 = true then (grommetref01_Read.l0 k a2 a3 t159 t160 ([] : List Int) 0) else (some (0, 0, false))) = some (r1, r2, r3) := H
  have A5 := Aside0.mk A50
  clear A50
  by_cases c6 : t161 = true
  · subst c6
    have H1 : (grommetref01_Read.l0 k a2 a3 t159 t160 ([] : List Int) 0) = some (r1, r2, r3) := by rw [if_pos rfl] at H; exact H
    clear H
    have H := H1
    clear H1
    have H' := Aside0.mk H
    clear H
    go_enter Tryd.func21, Tryd.ntmps21
    go_wp2_with (first | ((with_reducible refine gate_callee (f := 30) rfl ?_); refine goesL_ (some 31) rfl rfl Tryd.func30 (by kernel_rfl) rfl #[.slice A0 l0.length c0, .int .i64 a1, .int .i64 (wrap64 (Int.tdiv (wrap64 (a2 + 6)) 7))] rfl (by (try simp only [List.map_toArray, List.map_cons, List.map_nil]); first | done | rfl | (simp only [List.length_drop, List.length_take]; rfl)) ?_; (with_reducible refine (grommetref01_digits.calls k _ _ l0 a1 (wrap64 (Int.tdiv (wrap64 (a2 + 6)) 7)) t159 t160 true _ ?side1 ?side2 A5.out).mono ?_); (case side1 => repeat (first | exact HR0.out | (with_reducible refine Kd.C_alloc ?_ _) | (with_reducible refine Kd.C_drewN ?_ _) | (with_reducible refine Kd.C_drew ?_))); (case side2 => exact HC0.out); rintro e w7 ⟨v162, rfl, ho0, hb⟩; refine ⟨_, rfl, ?_⟩; have n0_ := Aside0.mk (Kd.R_lower ho0 (below_size (by repeat (first | (with_reducible first | exact HB.out | apply below_alloc | apply pw_below_drewN | apply below_drew1) | exact HB.out)))); have n1_ := Aside0.mk (below_step (by repeat (first | (with_reducible first | exact HB.out | apply below_alloc | apply pw_below_drewN | apply below_drew1) | exact HB.out)) hb); clear HB; have HO163 := n0_; have HB := n1_; clear n0_ n1_; (try clear hb); (try clear hb2); (try clear hk); (try clear hi); (try clear ho0)))
    go_loopg [15, 16] k (fun kq v15 v16 w' => ∃ (x15_1 : List Int) (x16_1 : Int), v16 = .int .i64 x16_1 ∧ Aside0 (grommetref01_Read.l0 kq a2 a3 t159 t160 x15_1 x16_1 = some (r1, r2, r3)) ∧ Aside0 (kq ≤ k) ∧ Aside0 (Kd.R (Kd.int .i64) 3 w' w.heap.size (fun k_ => some k_ ≠ (v15 : Value).ownBlock) v162 t159) ∧ Aside0 (Kd.R (Kd.int .i64) 3 w' w.heap.size (fun k_ => some k_ ≠ (v162 : Value).ownBlock) v15 x15_1) ∧ Aside0 (Below w.heap.size w w'))
    case atStart => exact ⟨(([] : List Int)), (0), (by first | rfl | (simp; done) | (simp [*]; done)), H', ⟨Nat.le_refl _⟩, ⟨by (with_reducible repeat (first | apply Kd.R_alloc | apply Kd.R_drewN | apply Kd.R_drew)); exact Kd.R_mono HO163.out (fun _ hk => (by simp [Value.ownBlock]))⟩, ⟨by first | exact Kd.R_nil _ _ _ _ _ | exact Kd.N_nil _ _ _ _ _ | exact Kd.V_nil _ _ _ _ _ | exact Kd.Q_nil _ _ _ _ _ | exact Kd.S_nil _ _ _ _ _⟩, ⟨by repeat (first | (with_reducible first | exact HB.out | apply below_alloc | apply pw_below_drewN | apply below_drew1) | exact HB.out)⟩⟩
    case round =>
      clear H'
      try clear c2
      try clear p2
      try clear c3
      try clear c6
      try clear p6
      obtain ⟨x15_1, x16_1, rfl, HA, HK1, HO_12, HO_15, HB⟩ := hrel
      cases gk with
      | zero => exact absurd HA.out (by simp [grommetref01_Read.l0])
      | succ k1 =>
        have H := HA.out
        clear HA
        simp only [grommetref01_Read.l0] at H
        by_cases c8 : x16_1 < (t159.length : Int)
        · rw [if_pos c8] at H
          have c8b0 : decide (x16_1 < (t159.length : Int)) = true := decide_eq_true c8
          clear c8
          by_cases c9 : 0 ≤ x16_1
          · rw [if_pos c9] at H
            have c9b0 : decide (0 ≤ x16_1) = true := decide_eq_true c9
            clear c9
            have H' := Aside0.mk H
            clear H
            obtain ⟨Ao10, co10, eo10⟩ := Kd.R_slice HO_12.out
            subst eo10
            have p164 : 0 ≤ (x16_1 : Int) := of_decide_eq_true (by first | (with_reducible assumption) | assumption)
            have q164 : x16_1 < (t159.length : Int) := of_decide_eq_true (by first | (with_reducible assumption) | assumption)
            obtain ⟨ad164, e164, hx164_0⟩ := Kd.at_int (Kd.R_reads' HO_12.out).2.2 x16_1 p164 q164
            cases e164
            replace p164 := eq_true p164
            replace q164 := eq_true q164
            go_wp2
            go_loopg [15, 17, 18] k1 (fun kq v15 v17 v18 w' => ∃ (x15_2 : List Int) (x17_2 : Int) (x18_2 : Int), v17 = .int .i64 x17_2 ∧ v18 = .int .i64 x18_2 ∧ Aside0 (grommetref01_Read.l1 kq a2 a3 t159 t160 x15_2 x16_1 x17_2 x18_2 = some (r1, r2, r3)) ∧ Aside0 (kq ≤ k1) ∧ Aside0 (Kd.R (Kd.int .i64) 3 w' w.heap.size (fun k_ => some k_ ≠ (v15 : Value).ownBlock) (.slice (some ad164) t159.length co10) t159) ∧ Aside0 (Kd.R (Kd.int .i64) 3 w' w.heap.size (fun k_ => some k_ ≠ ((.slice (some ad164) t159.length co10) : Value).ownBlock) v15 x15_2) ∧ Aside0 (Below w.heap.size w w'))
            case atStart => exact ⟨(x15_1), (rd t159 x16_1), (0), (by first | rfl | (simp; done) | (simp [*]; done)), (by first | rfl | (simp; done) | (simp [*]; done)), H', ⟨Nat.le_refl _⟩, ⟨by (with_reducible repeat (first | apply Kd.R_alloc | apply Kd.R_drewN | apply Kd.R_drew)); exact HO_12.out⟩, ⟨by (with_reducible repeat (first | apply Kd.R_alloc | apply Kd.R_drewN | apply Kd.R_drew)); exact HO_15.out⟩, ⟨by repeat (first | (with_reducible first | exact HB.out | apply below_alloc | apply pw_below_drewN | apply below_drew1) | exact HB.out)⟩⟩
            case round =>
              clear H'
              try clear p1
              try clear q1
              try clear hx1
              try clear c2
              try clear p2
              try clear c3
              try clear c6
              try clear p6
              try clear c8
              try clear c8b0
              try clear c9
              try clear c9b0
              try clear hx164_0
              try clear p164
              try clear p2
              try clear p6
              try clear q164
              obtain ⟨x15_2, x17_2, x18_2, rfl, rfl, HA, HK2, HO_12, HO_15, HB⟩ := hrel
              cases gk with
              | zero => exact absurd HA.out (by simp [grommetref01_Read.l1])
              | succ k2 =>
                have H := HA.out
                clear HA
                simp only [grommetref01_Read.l1] at H
                by_cases c11 : x18_2 < 7
                · rw [if_pos c11] at H
                  have c11b0 : decide (x18_2 < 7) = true := decide_eq_true c11
                  clear c11
                  by_cases c12 : x15_2.length < 17592186044416
                  · rw [if_pos c12] at H
                    have LMc12 := Aside0.mk c12
                    clear c12
                    obtain ⟨y165, hy165⟩ : ∃ y_ : List Int, y_ = (x15_2 ++ [Int.tmod x17_2 2]) := ⟨_, rfl⟩
                    replace H : (grommetref01_Read.l1 k2 a2 a3 t159 t160 y165 x16_1 (wrap64 (Int.tdiv x17_2 2)) (wrap64 (x18_2 + 1))) = some (r1, r2, r3) := by first | (rw [hy165]; with_reducible exact H) | (have H2_ := (Option.bind_some _ _).symm.trans H; rw [hy165]; with_reducible exact H2_) | (have H2_ := (Option.bind_some _ _).symm.trans H; with_reducible exact H2_) | with_reducible exact H | (rw [hy165]; exact H) | exact H
                    have Ny165 := Aside0.mk hy165
                    clear hy165
                    have H' := Aside0.mk H
                    clear H
                    go_wp2_with (first | ((with_reducible refine gate_builtin (b := .append) (xs := #[.tmp 51, .tmp 54]) rfl ?_); at_builtin; refine Kd.R_append (Kd.int .i64) (w0 := w) w.heap.size rfl (.tmp 51) (.tmp 54) 65 3 (.int .i64 0) 8 rfl Tryd.underlying65 info3 rfl (by decide) (by omega) u15 x15_2 (Int.tmod x17_2 2) [.int .i64 (Int.tmod x17_2 2)] (fun k_ => some k_ ≠ (.slice (some ad164) t159.length co10 : Value).ownBlock) (fun _ => False) rfl rfl ?aP (fun _ hk => hk.elim) ?aF ?aO ?aB ?aS ?aL ?_; (case aP => exact rfl); (case aB => exact (by repeat (first | (with_reducible first | exact HB.out | apply below_alloc | apply pw_below_drewN | apply below_drew1) | exact HB.out))); (case aF => exact (fun k_ hk => Kd.fresh' (Kd.R_lt (by (with_reducible repeat (first | apply Kd.R_alloc | apply Kd.R_drewN | apply Kd.R_drew)); exact HO_12.out)) k_ hk)); (case aO => exact (by (with_reducible repeat (first | apply Kd.R_alloc | apply Kd.R_drewN | apply Kd.R_drew)); exact HO_15.out)); (case aS => exact (below_size (by repeat (first | (with_reducible first | exact HB.out | apply below_alloc | apply pw_below_drewN | apply below_drew1) | exact HB.out)))); (case aL => have := LMc12.out; omega); intro v166 w13 ho hb hg hat; rw [← Ny165.out] at ho; have n0_ := Aside0.mk (Kd.R_after (ok := (fun _ => True)) (by (with_reducible repeat (first | apply Kd.R_alloc | apply Kd.R_drewN | apply Kd.R_drew)); exact Kd.R_mono HO_12.out (fun _ hk => ⟨trivial, hk⟩)) hg hat); have n1_ := Aside0.mk (hb); have n2_ := Aside0.mk (ho); clear HO_12; clear HB; clear HO_15; have HO_12 := n0_; have HB := n1_; have HO167 := n2_; clear n0_ n1_ n2_; clear ho hb hg hat))
                    go_roundg k2
                    case measure => have := HK1.out; have := HK2.out; omega
                    case rel => exact ⟨(y165), (wrap64 (Int.tdiv x17_2 2)), (wrap64 (x18_2 + 1)), (by first | rfl | (simp; done) | (simp [*]; done)), (by first | rfl | (simp; done) | (simp [*]; done)), H', ⟨by have := HK1.out; have := HK2.out; omega⟩, ⟨by (with_reducible repeat (first | apply Kd.R_alloc | apply Kd.R_drewN | apply Kd.R_drew)); exact Kd.R_mono HO_12.out (fun _ hk => hk.2)⟩, ⟨by (with_reducible repeat (first | apply Kd.R_alloc | apply Kd.R_drewN | apply Kd.R_drew)); exact HO167.out⟩, ⟨by repeat (first | (with_reducible first | exact HB.out | apply below_alloc | apply pw_below_drewN | apply below_drew1) | exact HB.out)⟩⟩
                  · rw [if_neg c12] at H
                    exact absurd H (by simp)
                · rw [if_neg c11] at H
                  have c11b0 : decide (x18_2 < 7) = false := decide_eq_false c11
                  clear c11
                  have H' := Aside0.mk H
                  clear H
                  go_wp2
                  go_roundg k2
                  case measure => have := HK1.out; have := HK2.out; omega
                  case rel => exact ⟨(x15_2), (wrap64 (x16_1 + 1)), (by first | rfl | (simp; done) | (simp [*]; done)), H', ⟨by have := HK1.out; have := HK2.out; omega⟩, ⟨by (with_reducible repeat (first | apply Kd.R_alloc | apply Kd.R_drewN | apply Kd.R_drew)); exact HO_12.out⟩, ⟨by (with_reducible repeat (first | apply Kd.R_alloc | apply Kd.R_drewN | apply Kd.R_drew)); exact HO_15.out⟩, ⟨by repeat (first | (with_reducible first | exact HB.out | apply below_alloc | apply pw_below_drewN | apply below_drew1) | exact HB.out)⟩⟩
          · rw [if_neg c9] at H
            exact absurd H (by simp)
        · rw [if_neg c8] at H
          have c8b0 : decide (x16_1 < (t159.length : Int)) = false := decide_eq_false c8
          clear c8
          have HC14 := Aside0.mk H
          clear H
          obtain ⟨Ao15, co15, eo15⟩ := Kd.R_slice HO_12.out
          subst eo15
          go_upto_if 58 with (fail)
          go_cut [19] (fun v19 wc => ∃ (kq : Nat) (x19_13 : Int), v19 = .int .i64 x19_13 ∧ Aside0 (grommetref01_Read.j2 kq a2 t160 x15_1 x19_13 = some (r1, r2, r3)) ∧ Aside0 (kq ≤ k1) ∧ Aside0 (Kd.R (Kd.int .i64) 3 wc w.heap.size (fun _ => True) u15 x15_1) ∧ Aside0 (Below w.heap.size w wc))
          case first =>
            have H := HC14.out
            clear HC14
            by_cases c16 : a3 = true
            · subst c16
              have H1 : (if 0 ≤ (wrap64 ((x15_1.length : Int) - 1)) then (if (wrap64 ((x15_1.length : Int) - 1)) < (x15_1.length : Int) then (if (x15_1.length : Int) > a2 then (if 0 ≤ (wrap64 (a2 - 1)) then (if (wrap64 (a2 - 1)) < (x15_1.length : Int) then (grommetref01_Read.j2 k1 a2 t160 x15_1 (rd x15_1 (wrap64 (a2 - 1)))) else (none)) else (none)) else (grommetref01_Read.j2 k1 a2 t160 x15_1 (rd x15_1 (wrap64 ((x15_1.length : Int) - 1))))) else (none)) else (none)) = some (r1, r2, r3) := by rw [if_pos rfl] at H; exact H
              clear H
              have H := H1
              clear H1
              obtain ⟨ji17, hji17⟩ : ∃ j_ : Int, (wrap64 ((x15_1.length : Int) - 1)) = j_ := ⟨_, rfl⟩
              replace H : (if 0 ≤ (ji17) then (if (ji17) < (x15_1.length : Int) then (if (x15_1.length : Int) > a2 then (if 0 ≤ (wrap64 (a2 - 1)) then (if (wrap64 (a2 - 1)) < (x15_1.length : Int) then (grommetref01_Read.j2 k1 a2 t160 x15_1 (rd x15_1 (wrap64 (a2 - 1)))) else (none)) else (none)) else (grommetref01_Read.j2 k1 a2 t160 x15_1 (rd x15_1 (ji17)))) else (none)) else (none)) = some (r1, r2, r3) := by first | (rw [hji17] at H; exact H) | (simp only [hji17] at H ⊢; exact H)
              have hji17w : (IntKind.i64.wrap ((x15_1.length : Int) - 1)) = ji17 := (i64_w _).trans hji17
              by_cases c18 : 0 ≤ (ji17)
              · rw [if_pos c18] at H
                have c18b0 : decide (0 ≤ (ji17)) = true := decide_eq_true c18
                clear c18
                (first | rw [c18b0] | (simp only [i64_w, i32_w]; rw [c18b0]) | skip)
                by_cases c19 : (ji17) < (x15_1.length : Int)
                · rw [if_pos c19] at H
                  have c19b0 : decide ((ji17) < (x15_1.length : Int)) = true := decide_eq_true c19
                  clear c19
                  by_cases c20 : (x15_1.length : Int) > a2
                  · rw [if_pos c20] at H
                    have c20b0 : decide (a2 < (x15_1.length : Int)) = true := decide_eq_true c20
                    clear c20
                    obtain ⟨ji21, hji21⟩ : ∃ j_ : Int, (wrap64 (a2 - 1)) = j_ := ⟨_, rfl⟩
                    replace H : (if 0 ≤ (ji21) then (if (ji21) < (x15_1.length : Int) then (grommetref01_Read.j2 k1 a2 t160 x15_1 (rd x15_1 (ji21))) else (none)) else (none)) = some (r1, r2, r3) := by first | (rw [hji21] at H; exact H) | (simp only [hji21] at H ⊢; exact H)
                    have hji21w : (IntKind.i64.wrap (a2 - 1)) = ji21 := (i64_w _).trans hji21
                    by_cases c22 : 0 ≤ (ji21)
                    · rw [if_pos c22] at H
                      have c22b0 : decide (0 ≤ (ji21)) = true := decide_eq_true c22
                      clear c22
                      by_cases c23 : (ji21) < (x15_1.length : Int)
                      · rw [if_pos c23] at H
                        have c23b0 : decide ((ji21) < (x15_1.length : Int)) = true := decide_eq_true c23
                        clear c23
                        have H' := Aside0.mk H
                        clear H
                        obtain ⟨Ao24, co24, eo24⟩ := Kd.R_slice HO_15.out
                        subst eo24
                        have p168 : 0 ≤ ((ji17) : Int) := of_decide_eq_true (by first | (with_reducible assumption) | assumption)
                        have q168 : (ji17) < (x15_1.length : Int) := of_decide_eq_true (by first | (with_reducible assumption) | assumption)
                        obtain ⟨ad168, e168, hx168_0⟩ := Kd.at_int (Kd.R_reads' HO_15.out).2.2 (ji17) p168 q168
                        cases e168
                        replace p168 := eq_true p168
                        replace q168 := eq_true q168
                        have p169 : 0 ≤ ((ji21) : Int) := of_decide_eq_true (by first | (with_reducible assumption) | assumption)
                        have q169 : (ji21) < (x15_1.length : Int) := of_decide_eq_true (by first | (with_reducible assumption) | assumption)
                        obtain ⟨ad169, e169, hx169_0⟩ := Kd.at_int (Kd.R_reads' HO_15.out).2.2 (ji21) p169 q169
                        obtain rfl : ad168 = ad169 := (by injection e169)
                        replace p169 := eq_true p169
                        replace q169 := eq_true q169
                        go_wp2
                        go_meet
                        case rel => exact ⟨_, (rd x15_1 (ji21)), (by first | rfl | (simp; done) | (simp only [← hji21] <;> (first | rfl | simp)) | (simp [*]; done)), H', ⟨by have := HK1.out; first | omega | exact Nat.le_refl _⟩, ⟨by (with_reducible repeat (first | apply Kd.R_alloc | apply Kd.R_drewN | apply Kd.R_drew)); exact Kd.R_mono HO_15.out (fun _ hk => trivial)⟩, ⟨by repeat (first | (with_reducible first | exact HB.out | apply below_alloc | apply pw_below_drewN | apply below_drew1) | exact HB.out)⟩⟩
                      · rw [if_neg c23] at H
                        exact absurd H (by simp)
                    · rw [if_neg c22] at H
                      exact absurd H (by simp)
                  · rw [if_neg c20] at H
                    have c20b0 : decide (a2 < (x15_1.length : Int)) = false := decide_eq_false c20
                    clear c20
                    have H' := Aside0.mk H
                    clear H
                    obtain ⟨Ao25, co25, eo25⟩ := Kd.R_slice HO_15.out
                    subst eo25
                    have p168 : 0 ≤ ((ji17) : Int) := of_decide_eq_true (by first | (with_reducible assumption) | assumption)
                    have q168 : (ji17) < (x15_1.length : Int) := of_decide_eq_true (by first | (with_reducible assumption) | assumption)
                    obtain ⟨ad168, e168, hx168_0⟩ := Kd.at_int (Kd.R_reads' HO_15.out).2.2 (ji17) p168 q168
                    cases e168
                    replace p168 := eq_true p168
                    replace q168 := eq_true q168
                    go_wp2
                    go_meet
                    case rel => exact ⟨_, (rd x15_1 (ji17)), (by first | rfl | (simp; done) | (simp only [← hji17] <;> (first | rfl | simp)) | (simp [*]; done)), H', ⟨by have := HK1.out; first | omega | exact Nat.le_refl _⟩, ⟨by (with_reducible repeat (first | apply Kd.R_alloc | apply Kd.R_drewN | apply Kd.R_drew)); exact Kd.R_mono HO_15.out (fun _ hk => trivial)⟩, ⟨by repeat (first | (with_reducible first | exact HB.out | apply below_alloc | apply pw_below_drewN | apply below_drew1) | exact HB.out)⟩⟩
                · rw [if_neg c19] at H
                  exact absurd H (by simp)
              · rw [if_neg c18] at H
                exact absurd H (by simp)
            · replace c16 := Bool.eq_false_iff.mpr c16
              subst c16
              have H1 : (grommetref01_Read.j2 k1 a2 t160 x15_1 0) = some (r1, r2, r3) := by rw [if_neg (show ¬ (false = true) by decide)] at H; exact H
              clear H
              have H := H1
              clear H1
              have H' := Aside0.mk H
              clear H
              go_wp2
              go_meet
              case rel => exact ⟨_, (0), (by first | rfl | (simp; done) | (simp [*]; done)), H', ⟨by have := HK1.out; first | omega | exact Nat.le_refl _⟩, ⟨by (with_reducible repeat (first | apply Kd.R_alloc | apply Kd.R_drewN | apply Kd.R_drew)); exact Kd.R_mono HO_15.out (fun _ hk => trivial)⟩, ⟨by repeat (first | (with_reducible first | exact HB.out | apply below_alloc | apply pw_below_drewN | apply below_drew1) | exact HB.out)⟩⟩
          case rest =>
            clear HC14
            try clear c1
            try clear p1
            try clear q1
            try clear hx1
            try clear c2
            try clear p2
            try clear c3
            try clear c6
            try clear p6
            try clear c8
            try clear c8b0
            try clear c9
            try clear c9b0
            try clear c11
            try clear c11b0
            try clear c12
            try clear c16
            try clear p16
            try clear q16
            try clear hx16
            try clear c18
            try clear c18b0
            try clear c19
            try clear c19b0
            try clear c20
            try clear c20b0
            try clear c21
            try clear c22
            try clear c22b0
            try clear c23
            try clear c23b0
            try clear hx164_0
            try clear hx168_0
            try clear hx169_0
            try clear p1
            try clear p164
            try clear p168
            try clear p169
            try clear p2
            try clear p6
            try clear q1
            try clear q164
            try clear q168
            try clear q169
            obtain ⟨kq, x19_13, rfl, HA, HJ13, HO_15, HB⟩ := hcut
            cases kq with
            | zero => exact absurd HA.out (by simp [grommetref01_Read.j2])
            | succ kj13 =>
              have H := HA.out
              clear HA
              simp only [grommetref01_Read.j2] at H
              have H' := Aside0.mk H
              clear H
              go_wp2
              go_loopg [20] kj13 (fun kq v20 w' => ∃ (x20_3 : Int), v20 = .int .i64 x20_3 ∧ Aside0 (grommetref01_Read.l2 kq a2 t160 x15_1 x19_13 x20_3 = some (r1, r2, r3)) ∧ Aside0 (kq ≤ kj13) ∧ Aside0 (Kd.R (Kd.int .i64) 3 w' w.heap.size (fun _ => True) u15 x15_1) ∧ Aside0 (Below w.heap.size w w'))
              case atStart => exact ⟨(a2), (by first | rfl | (simp; done) | (simp [*]; done)), H', ⟨Nat.le_refl _⟩, ⟨by (with_reducible repeat (first | apply Kd.R_alloc | apply Kd.R_drewN | apply Kd.R_drew)); exact HO_15.out⟩, ⟨by repeat (first | (with_reducible first | exact HB.out | apply below_alloc | apply pw_below_drewN | apply below_drew1) | exact HB.out)⟩⟩
              case round =>
                clear H'
                try clear c1
                try clear p1
                try clear q1
                try clear hx1
                try clear c2
                try clear p2
                try clear c3
                try clear c6
                try clear p6
                try clear c8
                try clear c8b0
                try clear c9
                try clear c9b0
                try clear c11
                try clear c11b0
                try clear c12
                try clear c16
                try clear p16
                try clear q16
                try clear hx16
                try clear c18
                try clear c18b0
                try clear c19
                try clear c19b0
                try clear c20
                try clear c20b0
                try clear c21
                try clear c22
                try clear c22b0
                try clear c23
                try clear c23b0
                try clear hx164_0
                try clear hx168_0
                try clear hx169_0
                try clear p1
                try clear p16
                try clear p164
                try clear p168
                try clear p169
                try clear p2
                try clear p6
                try clear q1
                try clear q16
                try clear q164
                try clear q168
                try clear q169
                obtain ⟨x20_3, rfl, HA, HK3, HO_15, HB⟩ := hrel
                cases gk with
                | zero => exact absurd HA.out (by simp [grommetref01_Read.l2])
                | succ k3 =>
                  have H := HA.out
                  clear HA
                  simp only [grommetref01_Read.l2] at H
                  by_cases c26 : x20_3 < (x15_1.length : Int)
                  · rw [if_pos c26] at H
                    have c26b0 : decide (x20_3 < (x15_1.length : Int)) = true := decide_eq_true c26
                    clear c26
                    by_cases c27 : 0 ≤ x20_3
                    · rw [if_pos c27] at H
                      have c27b0 : decide (0 ≤ x20_3) = true := decide_eq_true c27
                      clear c27
                      by_cases c28 : (rd x15_1 x20_3) = x19_13
                      · rw [if_pos c28] at H
                        have c28b0 : ((rd x15_1 x20_3) == x19_13) = true := beq_iff_eq.mpr c28
                        have c28b1 : ((rd x15_1 x20_3) != x19_13) = false := bne_eq_false_iff_eq.mpr c28
                        clear c28
                        have H' := Aside0.mk H
                        clear H
                        obtain ⟨Ao29, co29, eo29⟩ := Kd.R_slice HO_15.out
                        subst eo29
                        have p170 : 0 ≤ (x20_3 : Int) := of_decide_eq_true (by first | (with_reducible assumption) | assumption)
                        have q170 : x20_3 < (x15_1.length : Int) := of_decide_eq_true (by first | (with_reducible assumption) | assumption)
                        obtain ⟨ad170, e170, hx170_0⟩ := Kd.at_int (Kd.R_reads' HO_15.out).2.2 x20_3 p170 q170
                        cases e170
                        replace p170 := eq_true p170
                        replace q170 := eq_true q170
                        go_wp2
                        go_roundg k3
                        case measure => have := HK1.out; have := HJ13.out; have := HK3.out; omega
                        case rel => exact ⟨(wrap64 (x20_3 + 1)), (by first | rfl | (simp; done) | (simp [*]; done)), H', ⟨by have := HK1.out; have := HJ13.out; have := HK3.out; omega⟩, ⟨by (with_reducible repeat (first | apply Kd.R_alloc | apply Kd.R_drewN | apply Kd.R_drew)); exact HO_15.out⟩, ⟨by repeat (first | (with_reducible first | exact HB.out | apply below_alloc | apply pw_below_drewN | apply below_drew1) | exact HB.out)⟩⟩
                      · rw [if_neg c28] at H
                        have c28b0 : ((rd x15_1 x20_3) == x19_13) = false := beq_eq_false_iff_ne.mpr c28
                        have c28b1 : ((rd x15_1 x20_3) != x19_13) = true := bne_iff_ne.mpr c28
                        simp only [Option.some.injEq, Prod.mk.injEq] at H
                        obtain ⟨rfl, rfl, rfl⟩ := H
                        obtain ⟨Ao30, co30, eo30⟩ := Kd.R_slice HO_15.out
                        subst eo30
                        have p170 : 0 ≤ (x20_3 : Int) := of_decide_eq_true (by first | (with_reducible assumption) | assumption)
                        have q170 : x20_3 < (x15_1.length : Int) := of_decide_eq_true (by first | (with_reducible assumption) | assumption)
                        obtain ⟨ad170, e170, hx170_0⟩ := Kd.at_int (Kd.R_reads' HO_15.out).2.2 x20_3 p170 q170
                        cases e170
                        replace p170 := eq_true p170
                        replace q170 := eq_true q170
                        go_wp2
                        go_ret3
                        exact ⟨by first | rfl | (simp [errW_none, errW_some] <;> rfl) | (simp [*, errW_none, errW_some] <;> rfl), by repeat (first | (with_reducible first | exact HB.out | apply below_alloc | apply pw_below_drewN | apply below_drew1) | exact HB.out)⟩
                    · rw [if_neg c27] at H
                      exact absurd H (by simp)
                  · rw [if_neg c26] at H
                    have c26b0 : decide (x20_3 < (x15_1.length : Int)) = false := decide_eq_false c26
                    clear c26
                    have H' := Aside0.mk H
                    clear H
                    obtain ⟨Ao31, co31, eo31⟩ := Kd.R_slice HO_15.out
                    subst eo31
                    go_wp2
                    go_loopg [21, 22] k3 (fun kq v21 v22 w' => ∃ (x21_4 : Int) (x22_4 : Int), v21 = .int .u64 x21_4 ∧ v22 = .int .i64 x22_4 ∧ Aside0 (grommetref01_Read.l3 kq a2 t160 x15_1 x19_13 x21_4 x22_4 = some (r1, r2, r3)) ∧ Aside0 (kq ≤ k3) ∧ Aside0 (Kd.R (Kd.int .i64) 3 w' w.heap.size (fun _ => True) (.slice Ao31 x15_1.length co31) x15_1) ∧ Aside0 (Below w.heap.size w w'))
                    case atStart => exact ⟨(0), (63), (by first | rfl | (simp; done) | (simp [*]; done)), (by first | rfl | (simp; done) | (simp [*]; done)), H', ⟨Nat.le_refl _⟩, ⟨by (with_reducible repeat (first | apply Kd.R_alloc | apply Kd.R_drewN | apply Kd.R_drew)); exact HO_15.out⟩, ⟨by repeat (first | (with_reducible first | exact HB.out | apply below_alloc | apply pw_below_drewN | apply below_drew1) | exact HB.out)⟩⟩
                    case round =>
                      clear H'
                      try clear c1
                      try clear p1
                      try clear q1
                      try clear hx1
                      try clear c2
                      try clear p2
                      try clear c3
                      try clear c6
                      try clear p6
                      try clear c8
                      try clear c8b0
                      try clear c9
                      try clear c9b0
                      try clear c11
                      try clear c11b0
                      try clear c12
                      try clear c16
                      try clear p16
                      try clear q16
                      try clear hx16
                      try clear p17
                      try clear q17
                      try clear hx17
                      try clear c18
                      try clear c18b0
                      try clear c19
                      try clear c19b0
                      try clear c20
                      try clear c20b0
                      try clear c21
                      try clear c22
                      try clear c22b0
                      try clear c23
                      try clear c23b0
                      try clear c26
                      try clear c26b0
                      try clear c27
                      try clear c27b0
                      try clear c28
                      try clear c28b0
                      try clear c28b1
                      try clear c30
                      try clear hx164_0
                      try clear hx168_0
                      try clear hx169_0
                      try clear hx170_0
                      try clear p1
                      try clear p16
                      try clear p164
                      try clear p168
                      try clear p169
                      try clear p170
                      try clear p2
                      try clear p6
                      try clear q1
                      try clear q16
                      try clear q164
                      try clear q168
                      try clear q169
                      try clear q170
                      obtain ⟨x21_4, x22_4, rfl, rfl, HA, HK4, HO_15, HB⟩ := hrel
                      cases gk with
                      | zero => exact absurd HA.out (by simp [grommetref01_Read.l3])
                      | succ k4 =>
                        have H := HA.out
                        clear HA
                        simp only [grommetref01_Read.l3] at H
                        by_cases c32 : x22_4 ≥ 0
                        · rw [if_pos c32] at H
                          have c32b0 : decide (0 ≤ x22_4) = true := decide_eq_true c32
                          clear c32
                          by_cases c33 : x22_4 < (x15_1.length : Int)
                          · rw [if_pos c33] at H
                            have c33b0 : decide (x22_4 < (x15_1.length : Int)) = true := decide_eq_true c33
                            clear c33
                            by_cases c34 : x22_4 < a2
                            · rw [if_pos c34] at H
                              have c34b0 : decide (x22_4 < a2) = true := decide_eq_true c34
                              clear c34
                              by_cases c35 : 0 ≤ x22_4
                              · rw [if_pos c35] at H
                                have c35b0 : decide (0 ≤ x22_4) = true := decide_eq_true c35
                                clear c35
                                have H' := Aside0.mk H
                                clear H
                                have p171 : 0 ≤ (x22_4 : Int) := of_decide_eq_true (by first | (with_reducible assumption) | assumption)
                                have q171 : x22_4 < (x15_1.length : Int) := of_decide_eq_true (by first | (with_reducible assumption) | assumption)
                                obtain ⟨ad171, e171, hx171_0⟩ := Kd.at_int (Kd.R_reads' HO_15.out).2.2 x22_4 p171 q171
                                cases e171
                                replace p171 := eq_true p171
                                replace q171 := eq_true q171
                                go_wp2
                                go_roundg k4
                                case measure => have := HK1.out; have := HJ13.out; have := HK3.out; have := HK4.out; omega
                                case rel => exact ⟨(IntKind.u64.wrap ((IntKind.u64.wrap (x21_4 * 2)) + (IntKind.u64.wrap (rd x15_1 x22_4)))), (wrap64 (x22_4 - 1)), (by first | rfl | (simp; done) | (simp [*]; done)), (by first | rfl | (simp; done) | (simp [*]; done)), H', ⟨by have := HK1.out; have := HJ13.out; have := HK3.out; have := HK4.out; omega⟩, ⟨by (with_reducible repeat (first | apply Kd.R_alloc | apply Kd.R_drewN | apply Kd.R_drew)); exact HO_15.out⟩, ⟨by repeat (first | (with_reducible first | exact HB.out | apply below_alloc | apply pw_below_drewN | apply below_drew1) | exact HB.out)⟩⟩
                              · rw [if_neg c35] at H
                                exact absurd H (by simp)
                            · rw [if_neg c34] at H
                              have c34b0 : decide (x22_4 < a2) = false := decide_eq_false c34
                              clear c34
                              have H' := Aside0.mk H
                              clear H
                              go_wp2
                              go_roundg k4
                              case measure => have := HK1.out; have := HJ13.out; have := HK3.out; have := HK4.out; omega
                              case rel => exact ⟨(IntKind.u64.wrap ((IntKind.u64.wrap (x21_4 * 2)) + (IntKind.u64.wrap (x19_13)))), (wrap64 (x22_4 - 1)), (by first | rfl | (simp; done) | (simp [*]; done)), (by first | rfl | (simp; done) | (simp [*]; done)), H', ⟨by have := HK1.out; have := HJ13.out; have := HK3.out; have := HK4.out; omega⟩, ⟨by (with_reducible repeat (first | apply Kd.R_alloc | apply Kd.R_drewN | apply Kd.R_drew)); exact HO_15.out⟩, ⟨by repeat (first | (with_reducible first | exact HB.out | apply below_alloc | apply pw_below_drewN | apply below_drew1) | exact HB.out)⟩⟩
                          · rw [if_neg c33] at H
                            have c33b0 : decide (x22_4 < (x15_1.length : Int)) = false := decide_eq_false c33
                            clear c33
                            have H' := Aside0.mk H
                            clear H
                            go_wp2
                            go_roundg k4
                            case measure => have := HK1.out; have := HJ13.out; have := HK3.out; have := HK4.out; omega
                            case rel => exact ⟨(IntKind.u64.wrap ((IntKind.u64.wrap (x21_4 * 2)) + (IntKind.u64.wrap (x19_13)))), (wrap64 (x22_4 - 1)), (by first | rfl | (simp; done) | (simp [*]; done)), (by first | rfl | (simp; done) | (simp [*]; done)), H', ⟨by have := HK1.out; have := HJ13.out; have := HK3.out; have := HK4.out; omega⟩, ⟨by (with_reducible repeat (first | apply Kd.R_alloc | apply Kd.R_drewN | apply Kd.R_drew)); exact HO_15.out⟩, ⟨by repeat (first | (with_reducible first | exact HB.out | apply below_alloc | apply pw_below_drewN | apply below_drew1) | exact HB.out)⟩⟩
                        · rw [if_neg c32] at H
                          have c32b0 : decide (0 ≤ x22_4) = false := decide_eq_false c32
                          clear c32
                          simp only [Option.some.injEq, Prod.mk.injEq] at H
                          obtain ⟨rfl, rfl, rfl⟩ := H
                          go_wp2
                          go_ret3
                          exact ⟨by first | rfl | (simp [errW_none, errW_some] <;> rfl) | (simp [*, errW_none, errW_some] <;> rfl), by repeat (first | (with_reducible first | exact HB.out | apply below_alloc | apply pw_below_drewN | apply below_drew1) | exact HB.out)⟩
  · replace c6 := Bool.eq_false_iff.mpr c6
    subst c6
    have H1 : (some (0, 0, false)) = some (r1, r2, r3) := by rw [if_neg (show ¬ (false = true) by decide)] at H; exact H
    clear H
    have H := H1
    clear H1
    simp only [Option.some.injEq, Prod.mk.injEq] at H
    obtain ⟨rfl, rfl, rfl⟩ := H
    go_enter Tryd.func21, Tryd.ntmps21
    go_wp2_with (first | ((with_reducible refine gate_callee (f := 30) rfl ?_); refine goesL_ (some 31) rfl rfl Tryd.func30 (by kernel_rfl) rfl #[.slice A0 l0.length c0, .int .i64 a1, .int .i64 (wrap64 (Int.tdiv (wrap64 (a2 + 6)) 7))] rfl (by (try simp only [List.map_toArray, List.map_cons, List.map_nil]); first | done | rfl | (simp only [List.length_drop, List.length_take]; rfl)) ?_; (with_reducible refine (grommetref01_digits.calls k _ _ l0 a1 (wrap64 (Int.tdiv (wrap64 (a2 + 6)) 7)) t159 t160 false _ ?side1 ?side2 A5.out).mono ?_); (case side1 => repeat (first | exact HR0.out | (with_reducible refine Kd.C_alloc ?_ _) | (with_reducible refine Kd.C_drewN ?_ _) | (with_reducible refine Kd.C_drew ?_))); (case side2 => exact HC0.out); rintro e w36 ⟨v162, rfl, ho0, hb⟩; refine ⟨_, rfl, ?_⟩; have n0_ := Aside0.mk (Kd.R_lower ho0 (below_size (by repeat (first | (with_reducible first | exact HB.out | apply below_alloc | apply pw_below_drewN | apply below_drew1) | exact HB.out)))); have n1_ := Aside0.mk (below_step (by repeat (first | (with_reducible first | exact HB.out | apply below_alloc | apply pw_below_drewN | apply below_drew1) | exact HB.out)) hb); clear HB; have HO163 := n0_; have HB := n1_; clear n0_ n1_; (try clear hb); (try clear hb2); (try clear hk); (try clear hi); (try clear ho0)))
    go_ret3
    exact ⟨by first | rfl | (simp [errW_none, errW_some] <;> rfl) | (simp [*, errW_none, errW_some] <;> rfl), by repeat (first | (with_reducible first | exact HB.out | apply below_alloc | apply pw_below_drewN | apply below_drew1) | exact HB.out)⟩

end Go.Proofs.YtibeoejnfpbcfaaDoor.RSectSplits
