-- Made by the program wip/patchprint.py (this session's own, over the kit's print)
import Derived.Test.YtbelijoggbblgaaRStoreExportsx0
namespace Go.Proofs.Ytbelijoggbblgaa.RStoreExports
open Go.RowKit Go.Proofs.Ytbelijoggbblgaa.Man Go.Proofs.YtbelijoggbblgaaW.PrintWords Go.Proofs.YtbelijoggbblgaaW.PrintLast
set_option linter.unusedVariables false
set_option linter.unusedSimpArgs false
set_option linter.unnecessarySimpa false




/-! ### grommetref05_Ints: function 14 -/
def grommetref05_Ints.l0 : Nat → List Int → List Int → Int → Option (Bool)
  | 0, _, _, _ => none
  | k + 1, x0, x1, x5 => if x5 < (x0.length : Int) then (if 0 ≤ x5 then (if x5 < (x1.length : Int) then (if (rd x0 x5) = (rd x1 x5) then (grommetref05_Ints.l0 k x0 x1 (wrap64 (x5 + 1))) else (some false)) else (none)) else (none)) else (some true)
def grommetref05_Ints.f (k : Nat) (l0 : List Int) (l1 : List Int) : Option (Bool) := if (l0.length : Int) = (l1.length : Int) then (grommetref05_Ints.l0 k l0 l1 0) else (some false)
theorem grommetref05_Ints.mono_l : ∀ k, (∀ y0 y1 y2, LeO (grommetref05_Ints.l0 k y0 y1 y2) (grommetref05_Ints.l0 (k + 1) y0 y1 y2))
  | 0 => fun _ _ _ r h => by simp [grommetref05_Ints.l0] at h
  | k + 1 => by
    have ih0 := grommetref05_Ints.mono_l k
    · intro y0 y1 y2
      unfold grommetref05_Ints.l0
      repeat' first
      | (with_reducible exact ih0 _ _ _)
      | (with_reducible exact LeO.refl _)
      | (with_reducible exact LeO.none _)
      | (with_reducible refine LeO.ite ?_ ?_)
      | (with_reducible refine LeO.bind ?_ (fun _ => ?_))
      | exact ih0 _ _ _
      | exact LeO.none _
      | refine LeO.ite ?_ ?_
      | refine LeO.bind ?_ (fun _ => ?_)
theorem grommetref05_Ints.mono : ∀ a0 a1 k, LeO (grommetref05_Ints.f k a0 a1) (grommetref05_Ints.f (k + 1) a0 a1) := by
  intro a0 a1 k
  have ih0 := grommetref05_Ints.mono_l k
  unfold grommetref05_Ints.f
  repeat' first
      | (with_reducible exact ih0 _ _ _)
      | (with_reducible exact LeO.refl _)
      | (with_reducible exact LeO.none _)
      | (with_reducible refine LeO.ite ?_ ?_)
      | (with_reducible refine LeO.bind ?_ (fun _ => ?_))
      | exact ih0 _ _ _
      | exact LeO.none _
      | refine LeO.ite ?_ ?_
      | refine LeO.bind ?_ (fun _ => ?_)
set_option maxHeartbeats 8000000 in
set_option maxRecDepth 100000 in
theorem grommetref05_Ints.calls (k : Nat) (A0 : Option Addr) (c0 : Nat) (l0 : List Int) (A1 : Option Addr) (c1 : Nat) (l1 : List Int) (r : Bool) (w : World) (hr0 : Kd.C (Kd.int .i64) w A0 l0.length l0) (hc0 : l0.length ≤ c0) (hr1 : Kd.C (Kd.int .i64) w A1 l1.length l1) (hc1 : l1.length ≤ c1) (h : grommetref05_Ints.f k l0 l1 = some r) :
    Calls Try.prog 14 #[.slice A0 l0.length c0, .slice A1 l1.length c1] w fun e w' => e = .returned (.bool r) ∧ Drawn0 w w' := by
  have HR0 := Aside0.mk hr0
  have HC0 := Aside0.mk hc0
  clear hr0 hc0
  have HR1 := Aside0.mk hr1
  have HC1 := Aside0.mk hc1
  clear hr1 hc1
  have H : (if (l0.length : Int) = (l1.length : Int) then (grommetref05_Ints.l0 k l0 l1 0) else (some false)) = some r := h
  clear h
  by_cases c3 : (l0.length : Int) = (l1.length : Int)
  · rw [if_pos c3] at H
    have c3b0 : ((l0.length : Int) == (l1.length : Int)) = true := beq_iff_eq.mpr c3
    have c3b1 : ((l0.length : Int) != (l1.length : Int)) = false := bne_eq_false_iff_eq.mpr c3
    have c3b2 : (l0.length == l1.length) = true := by first | simpa using c3 | (simp at c3 ⊢; omega)
    clear c3
    have H' := Aside0.mk H
    clear H
    go_enter Try.func14, Try.ntmps14
    go_wp2
    repeat (go_quiet (fail); try go_wp2)
    go_loopg [5] k (fun kq v5 w' => ∃ (x5_1 : Int), v5 = .int .i64 x5_1 ∧ Aside0 (grommetref05_Ints.l0 kq l0 l1 x5_1 = some r) ∧ Aside0 (kq ≤ k) ∧ Drawn0 w w')
    case atStart => exact ⟨(0), (by first | rfl | (simp; done) | (simp [*]; done)), H', ⟨Nat.le_refl _⟩, by repeat (first | exact Drawn0.refl _ | apply Drawn0.step)⟩
    case round =>
      clear H'
      try clear c1
      try clear p2
      try clear c3
      try clear c3b0
      try clear c3b1
      try clear c3b2
      obtain ⟨x5_1, rfl, HA, HK1, ⟨m1, rfl⟩⟩ := hrel
      cases gk with
      | zero => exact absurd HA.out (by simp [grommetref05_Ints.l0])
      | succ k1 =>
        have H := HA.out
        clear HA
        simp only [grommetref05_Ints.l0] at H
        by_cases c4 : x5_1 < (l0.length : Int)
        · rw [if_pos c4] at H
          have c4b0 : decide (x5_1 < (l0.length : Int)) = true := decide_eq_true c4
          clear c4
          by_cases c5 : 0 ≤ x5_1
          · rw [if_pos c5] at H
            have c5b0 : decide (0 ≤ x5_1) = true := decide_eq_true c5
            clear c5
            by_cases c6 : x5_1 < (l1.length : Int)
            · rw [if_pos c6] at H
              have c6b0 : decide (x5_1 < (l1.length : Int)) = true := decide_eq_true c6
              clear c6
              by_cases c7 : (rd l0 x5_1) = (rd l1 x5_1)
              · rw [if_pos c7] at H
                have c7b0 : ((rd l0 x5_1) == (rd l1 x5_1)) = true := beq_iff_eq.mpr c7
                have c7b1 : ((rd l0 x5_1) != (rd l1 x5_1)) = false := bne_eq_false_iff_eq.mpr c7
                clear c7
                have H' := Aside0.mk H
                clear H
                have p101 : 0 ≤ (x5_1 : Int) := of_decide_eq_true (by first | (with_reducible assumption) | assumption)
                have q101 : x5_1 < (l0.length : Int) := of_decide_eq_true (by first | (with_reducible assumption) | assumption)
                obtain ⟨ad101, e101, hx101_0⟩ := Kd.at_int HR0.out x5_1 p101 q101
                cases e101
                replace p101 := eq_true p101
                replace q101 := eq_true q101
                have p102 : 0 ≤ (x5_1 : Int) := of_decide_eq_true (by first | (with_reducible assumption) | assumption)
                have q102 : x5_1 < (l1.length : Int) := of_decide_eq_true (by first | (with_reducible assumption) | assumption)
                obtain ⟨ad102, e102, hx102_0⟩ := Kd.at_int HR1.out x5_1 p102 q102
                cases e102
                replace p102 := eq_true p102
                replace q102 := eq_true q102
                go_wp2
                repeat (go_quiet (fail); try go_wp2)
                go_roundg k1
                case measure => have := HK1.out; omega
                case rel => exact ⟨(wrap64 (x5_1 + 1)), (by first | rfl | (simp; done) | (simp [*]; done)), H', ⟨by have := HK1.out; omega⟩, by repeat (first | exact Drawn0.refl _ | apply Drawn0.step)⟩
              · rw [if_neg c7] at H
                have c7b0 : ((rd l0 x5_1) == (rd l1 x5_1)) = false := beq_eq_false_iff_ne.mpr c7
                have c7b1 : ((rd l0 x5_1) != (rd l1 x5_1)) = true := bne_iff_ne.mpr c7
                obtain rfl := Option.some.inj H
                have p101 : 0 ≤ (x5_1 : Int) := of_decide_eq_true (by first | (with_reducible assumption) | assumption)
                have q101 : x5_1 < (l0.length : Int) := of_decide_eq_true (by first | (with_reducible assumption) | assumption)
                obtain ⟨ad101, e101, hx101_0⟩ := Kd.at_int HR0.out x5_1 p101 q101
                cases e101
                replace p101 := eq_true p101
                replace q101 := eq_true q101
                have p102 : 0 ≤ (x5_1 : Int) := of_decide_eq_true (by first | (with_reducible assumption) | assumption)
                have q102 : x5_1 < (l1.length : Int) := of_decide_eq_true (by first | (with_reducible assumption) | assumption)
                obtain ⟨ad102, e102, hx102_0⟩ := Kd.at_int HR1.out x5_1 p102 q102
                cases e102
                replace p102 := eq_true p102
                replace q102 := eq_true q102
                go_wp2
                repeat (go_quiet (fail); try go_wp2)
                go_ret
                exact ⟨by first | rfl | (simp; done) | (simp [*]; done), by repeat (first | exact Drawn0.refl _ | apply Drawn0.step)⟩
            · rw [if_neg c6] at H
              exact absurd H (by simp)
          · rw [if_neg c5] at H
            exact absurd H (by simp)
        · rw [if_neg c4] at H
          have c4b0 : decide (x5_1 < (l0.length : Int)) = false := decide_eq_false c4
          clear c4
          obtain rfl := Option.some.inj H
          go_wp2
          repeat (go_quiet (fail); try go_wp2)
          go_ret
          exact ⟨by first | rfl | (simp; done) | (simp [*]; done), by repeat (first | exact Drawn0.refl _ | apply Drawn0.step)⟩
  · rw [if_neg c3] at H
    have c3b0 : ((l0.length : Int) == (l1.length : Int)) = false := beq_eq_false_iff_ne.mpr c3
    have c3b1 : ((l0.length : Int) != (l1.length : Int)) = true := bne_iff_ne.mpr c3
    have c3b2 : (l0.length == l1.length) = false := by first | simpa using c3 | (simp at c3 ⊢; omega)
    obtain rfl := Option.some.inj H
    go_enter Try.func14, Try.ntmps14
    go_wp2
    repeat (go_quiet (fail); try go_wp2)
    go_ret
    exact ⟨by first | rfl | (simp; done) | (simp [*]; done), by repeat (first | exact Drawn0.refl _ | apply Drawn0.step)⟩

/-! ### grommetref05_Count: function 43 -/
mutual
def grommetref05_Count.l0 : Nat → List (S104) → Int → Int → Int → Option (Int × Int)
  | 0, _, _, _, _ => none
  | k + 1, x0, x4, x5, x6 => if x6 < (x0.length : Int) then (if 0 ≤ x6 then ((grommetref05_Count.f k ((rd_T104 x0 x6).f6)).bind fun bt104 => ((grommetref05_Count.f k ((rd_T104 x0 x6).f7)).bind fun bt107 => (if ((rd_T104 x0 x6).f0) ≥ 2 then (grommetref05_Count.j1 k x0 (wrap64 ((wrap64 ((wrap64 (x4 + 1)) + bt104.1)) + bt107.1)) x5 x6 bt104.2 bt107.2 (decide (((rd_T104 x0 x6).f0) ≤ 4))) else (grommetref05_Count.j1 k x0 (wrap64 ((wrap64 ((wrap64 (x4 + 1)) + bt104.1)) + bt107.1)) x5 x6 bt104.2 bt107.2 false)))) else (none)) else (some (x4, x5))
def grommetref05_Count.j1 : Nat → List (S104) → Int → Int → Int → Int → Int → Bool → Option (Int × Int)
  | 0, _, _, _, _, _, _, _ => none
  | k + 1, x0, x4, x5, x6, x8, x10, x54 => if x54 = true then (if (wrap64 (x8 + 1)) > x5 then (if (wrap64 (x10 + 1)) > (wrap64 (x8 + 1)) then (grommetref05_Count.l0 k x0 x4 (wrap64 (x10 + 1)) (wrap64 (x6 + 1))) else (grommetref05_Count.l0 k x0 x4 (wrap64 (x8 + 1)) (wrap64 (x6 + 1)))) else (if (wrap64 (x10 + 1)) > x5 then (grommetref05_Count.l0 k x0 x4 (wrap64 (x10 + 1)) (wrap64 (x6 + 1))) else (grommetref05_Count.l0 k x0 x4 x5 (wrap64 (x6 + 1))))) else (grommetref05_Count.l0 k x0 x4 x5 (wrap64 (x6 + 1)))
def grommetref05_Count.f : Nat → List (S104) → Option (Int × Int)
  | 0, _ => none
  | k + 1, l0 => grommetref05_Count.l0 k l0 0 0 0
end
theorem grommetref05_Count.mono_l : ∀ k, (∀ y0, LeO (grommetref05_Count.f k y0) (grommetref05_Count.f (k + 1) y0)) ∧ (∀ y0 y1 y2 y3, LeO (grommetref05_Count.l0 k y0 y1 y2 y3) (grommetref05_Count.l0 (k + 1) y0 y1 y2 y3)) ∧ (∀ y0 y1 y2 y3 y4 y5 y6, LeO (grommetref05_Count.j1 k y0 y1 y2 y3 y4 y5 y6) (grommetref05_Count.j1 (k + 1) y0 y1 y2 y3 y4 y5 y6))
  | 0 => ⟨fun _ r h => by simp [grommetref05_Count.f] at h, fun _ _ _ _ r h => by simp [grommetref05_Count.l0] at h, fun _ _ _ _ _ _ _ r h => by simp [grommetref05_Count.j1] at h⟩
  | k + 1 => by
    obtain ⟨ih0, ih1, ih2⟩ := grommetref05_Count.mono_l k
    refine ⟨?_, ?_, ?_⟩
    · intro y0
      unfold grommetref05_Count.f
      repeat' first
      | (with_reducible exact ih0 _)
      | (with_reducible exact ih1 _ _ _ _)
      | (with_reducible exact ih2 _ _ _ _ _ _ _)
      | (with_reducible exact LeO.refl _)
      | (with_reducible exact LeO.none _)
      | (with_reducible refine LeO.ite ?_ ?_)
      | (with_reducible refine LeO.bind ?_ (fun _ => ?_))
      | exact ih0 _
      | exact ih1 _ _ _ _
      | exact ih2 _ _ _ _ _ _ _
      | exact LeO.none _
      | refine LeO.ite ?_ ?_
      | refine LeO.bind ?_ (fun _ => ?_)
    · intro y0 y1 y2 y3
      unfold grommetref05_Count.l0
      repeat' first
      | (with_reducible exact ih0 _)
      | (with_reducible exact ih1 _ _ _ _)
      | (with_reducible exact ih2 _ _ _ _ _ _ _)
      | (with_reducible exact LeO.refl _)
      | (with_reducible exact LeO.none _)
      | (with_reducible refine LeO.ite ?_ ?_)
      | (with_reducible refine LeO.bind ?_ (fun _ => ?_))
      | exact ih0 _
      | exact ih1 _ _ _ _
      | exact ih2 _ _ _ _ _ _ _
      | exact LeO.none _
      | refine LeO.ite ?_ ?_
      | refine LeO.bind ?_ (fun _ => ?_)
    · intro y0 y1 y2 y3 y4 y5 y6
      unfold grommetref05_Count.j1
      repeat' first
      | (with_reducible exact ih0 _)
      | (with_reducible exact ih1 _ _ _ _)
      | (with_reducible exact ih2 _ _ _ _ _ _ _)
      | (with_reducible exact LeO.refl _)
      | (with_reducible exact LeO.none _)
      | (with_reducible refine LeO.ite ?_ ?_)
      | (with_reducible refine LeO.bind ?_ (fun _ => ?_))
      | exact ih0 _
      | exact ih1 _ _ _ _
      | exact ih2 _ _ _ _ _ _ _
      | exact LeO.none _
      | refine LeO.ite ?_ ?_
      | refine LeO.bind ?_ (fun _ => ?_)
theorem grommetref05_Count.mono : ∀ a0 k, LeO (grommetref05_Count.f k a0) (grommetref05_Count.f (k + 1) a0) := by
  intro a0 k
  obtain ⟨ih0, ih1, ih2⟩ := grommetref05_Count.mono_l k
  exact ih0 a0
set_option maxHeartbeats 8000000 in
set_option maxRecDepth 100000 in
theorem grommetref05_Count.calls (k : Nat) : ∀ (A0 : Option Addr) (c0 : Nat) (l0 : List (S104)) (r1 : Int) (r2 : Int) (w : World) (hr0 : Kd.C k104 w A0 l0.length l0) (hc0 : l0.length ≤ c0) (h : grommetref05_Count.f k l0 = some (r1, r2)),
    Calls Try.prog 43 #[.slice A0 l0.length c0] w fun e w' => e = .returned (.tuple #[.int .i64 r1, .int .i64 r2]) ∧ Drawn0 w w' := by
  induction k using Nat.strongRecOn with
  | _ k ih =>
  intro A0 c0 l0 r1 r2 w hr0 hc0 h
  cases k with
  | zero => exact absurd h (by simp [grommetref05_Count.f])
  | succ k =>
  simp only [grommetref05_Count.f] at h
  have HR0 := Aside0.mk hr0
  have HC0 := Aside0.mk hc0
  clear hr0 hc0
  have H : (grommetref05_Count.l0 k l0 0 0 0) = some (r1, r2) := h
  clear h
  have H' := Aside0.mk H
  clear H
  go_enter Try.func43, Try.ntmps43
  go_wp2
  go_loopg [4, 5, 6] k (fun kq v4 v5 v6 w' => ∃ (x4_1 : Int) (x5_1 : Int) (x6_1 : Int), v4 = .int .i64 x4_1 ∧ v5 = .int .i64 x5_1 ∧ v6 = .int .i64 x6_1 ∧ Aside0 (grommetref05_Count.l0 kq l0 x4_1 x5_1 x6_1 = some (r1, r2)) ∧ Aside0 (kq ≤ k) ∧ Drawn0 w w')
  case atStart => exact ⟨(0), (0), (0), (by first | rfl | (simp; done) | (simp [*]; done)), (by first | rfl | (simp; done) | (simp [*]; done)), (by first | rfl | (simp; done) | (simp [*]; done)), H', ⟨Nat.le_refl _⟩, by repeat (first | exact Drawn0.refl _ | apply Drawn0.step)⟩
  case round =>
    clear H'
    obtain ⟨x4_1, x5_1, x6_1, rfl, rfl, rfl, HA, HK1, ⟨m1, rfl⟩⟩ := hrel
    cases gk with
    | zero => exact absurd HA.out (by simp [grommetref05_Count.l0])
    | succ k1 =>
      have H := HA.out
      clear HA
      simp only [grommetref05_Count.l0] at H
      by_cases c2 : x6_1 < (l0.length : Int)
      · rw [if_pos c2] at H
        have c2b0 : decide (x6_1 < (l0.length : Int)) = true := decide_eq_true c2
        clear c2
        by_cases c3 : 0 ≤ x6_1
        · rw [if_pos c3] at H
          have c3b0 : decide (0 ≤ x6_1) = true := decide_eq_true c3
          clear c3
          replace H := Option.bind_eq_some_iff.mp H
          obtain ⟨⟨t104, t105⟩, A40, H⟩ := H
          replace H : ((grommetref05_Count.f k1 ((rd_T104 l0 x6_1).f7)).bind fun bt107 => (if ((rd_T104 l0 x6_1).f0) ≥ 2 then (grommetref05_Count.j1 k1 l0 (wrap64 ((wrap64 ((wrap64 (x4_1 + 1)) + t104)) + bt107.1)) x5_1 x6_1 t105 bt107.2 (decide (((rd_T104 l0 x6_1).f0) ≤ 4))) else (grommetref05_Count.j1 k1 l0 (wrap64 ((wrap64 ((wrap64 (x4_1 + 1)) + t104)) + bt107.1)) x5_1 x6_1 t105 bt107.2 false))) = some (r1, r2) := H
          have A4 := Aside0.mk A40
          clear A40
          replace H := Option.bind_eq_some_iff.mp H
          obtain ⟨⟨t107, t108⟩, A50, H⟩ := H
          replace H : (if ((rd_T104 l0 x6_1).f0) ≥ 2 then (grommetref05_Count.j1 k1 l0 (wrap64 ((wrap64 ((wrap64 (x4_1 + 1)) + t104)) + t107)) x5_1 x6_1 t105 t108 (decide (((rd_T104 l0 x6_1).f0) ≤ 4))) else (grommetref05_Count.j1 k1 l0 (wrap64 ((wrap64 ((wrap64 (x4_1 + 1)) + t104)) + t107)) x5_1 x6_1 t105 t108 false)) = some (r1, r2) := H
          have A5 := Aside0.mk A50
          clear A50
          have HC6 := Aside0.mk H
          clear H
          have p103 : 0 ≤ (x6_1 : Int) := of_decide_eq_true (by first | (with_reducible assumption) | assumption)
          have q103 : x6_1 < (l0.length : Int) := of_decide_eq_true (by first | (with_reducible assumption) | assumption)
          obtain ⟨ad103, A103_5, c103_5, A103_6, c103_6, A103_7, c103_7, e103, hx103_0, hx103_1, hx103_2, hx103_3, hx103_4, hx103_5, hx103_6, hx103_7, hx103_8, hl103_5, hi103_5, hl103_6, hi103_6, hl103_7, hi103_7⟩ := at_T104 HR0.out x6_1 p103 q103
          cases e103
          have HR103_5 := Aside0.mk hi103_5
          have HC103_5 := Aside0.mk hl103_5
          clear hi103_5 hl103_5
          have HR103_6 := Aside0.mk hi103_6
          have HC103_6 := Aside0.mk hl103_6
          clear hi103_6 hl103_6
          have HR103_7 := Aside0.mk hi103_7
          have HC103_7 := Aside0.mk hl103_7
          clear hi103_7 hl103_7
          replace p103 := eq_true p103
          replace q103 := eq_true q103
          go_upto_region 9 with (first | ((with_reducible refine gate_callee (f := 43) rfl ?_); refine goesL_ (some 23) rfl rfl Try.func43 (by kernel_rfl) rfl #[.slice A103_6 ((rd_T104 l0 x6_1).f6).length c103_6] rfl (by (try simp only [List.map_toArray, List.map_cons, List.map_nil]); first | done | rfl | (simp only [List.length_drop, List.length_take]; rfl)) ?_; (with_reducible refine (ih k1 (by have := HK1.out; omega) _ _ ((rd_T104 l0 x6_1).f6) t104 t105 _ ?side1 ?side2 A4.out).mono ?_); (case side1 => repeat (first | exact HR103_6.out | (with_reducible refine Kd.C_alloc ?_ _) | (with_reducible refine Kd.C_drewN ?_ _) | (with_reducible refine Kd.C_drew ?_))); (case side2 => exact HC103_6.out); rintro e w' ⟨rfl, ⟨nd, rfl⟩⟩; refine ⟨_, rfl, ?_⟩; have p106 : 0 ≤ (x6_1 : Int) := of_decide_eq_true (by first | (with_reducible assumption) | assumption); have q106 : x6_1 < (l0.length : Int) := of_decide_eq_true (by first | (with_reducible assumption) | assumption); obtain ⟨ad106, A106_5, c106_5, A106_6, c106_6, A106_7, c106_7, e106, hx106_0, hx106_1, hx106_2, hx106_3, hx106_4, hx106_5, hx106_6, hx106_7, hx106_8, hl106_5, hi106_5, hl106_6, hi106_6, hl106_7, hi106_7⟩ := at_T104 HR0.out x6_1 p106 q106; obtain rfl : ad103 = ad106 := (by injection e106); have HR106_5 := Aside0.mk hi106_5; have HC106_5 := Aside0.mk hl106_5; clear hi106_5 hl106_5; have HR106_6 := Aside0.mk hi106_6; have HC106_6 := Aside0.mk hl106_6; clear hi106_6 hl106_6; have HR106_7 := Aside0.mk hi106_7; have HC106_7 := Aside0.mk hl106_7; clear hi106_7 hl106_7; replace p106 := eq_true p106; replace q106 := eq_true q106; have ea_ := Option.some.inj (hx103_5.symm.trans hx106_5); injection ea_ with ea_ en_ ec_; subst ea_; subst ec_; clear en_; have ea_ := Option.some.inj (hx103_6.symm.trans hx106_6); injection ea_ with ea_ en_ ec_; subst ea_; subst ec_; clear en_; have ea_ := Option.some.inj (hx103_7.symm.trans hx106_7); injection ea_ with ea_ en_ ec_; subst ea_; subst ec_; clear en_) | ((with_reducible refine gate_callee (f := 43) rfl ?_); refine goesL_ (some 32) rfl rfl Try.func43 (by kernel_rfl) rfl #[.slice A103_7 ((rd_T104 l0 x6_1).f7).length c103_7] rfl (by (try simp only [List.map_toArray, List.map_cons, List.map_nil]); first | done | rfl | (simp only [List.length_drop, List.length_take]; rfl)) ?_; (with_reducible refine (ih k1 (by have := HK1.out; omega) _ _ ((rd_T104 l0 x6_1).f7) t107 t108 _ ?side1 ?side2 A5.out).mono ?_); (case side1 => repeat (first | exact HR106_7.out | (with_reducible refine Kd.C_alloc ?_ _) | (with_reducible refine Kd.C_drewN ?_ _) | (with_reducible refine Kd.C_drew ?_))); (case side2 => exact HC106_7.out); rintro e w' ⟨rfl, ⟨nd, rfl⟩⟩; refine ⟨_, rfl, ?_⟩))
          (try simp only [Act.put, List.setIfInBounds_toArray, List.set_cons_zero, List.set_cons_succ])
          go_cut [54] (fun v54 wc => ∃ (kq : Nat) (x54_5 : Bool), v54 = .bool x54_5 ∧ Aside0 (grommetref05_Count.j1 kq l0 (wrap64 ((wrap64 ((wrap64 (x4_1 + 1)) + t104)) + t107)) x5_1 x6_1 t105 t108 x54_5 = some (r1, r2)) ∧ Aside0 (kq ≤ k1) ∧ Drawn0 w wc)
          case first =>
            have H := HC6.out
            clear HC6
            by_cases c7 : ((rd_T104 l0 x6_1).f0) ≥ 2
            · rw [if_pos c7] at H
              have c7b0 : decide (2 ≤ ((rd_T104 l0 x6_1).f0)) = true := decide_eq_true c7
              clear c7
              (first | rw [c7b0] | (simp only [i64_w, i32_w]; rw [c7b0]) | skip)
              have H' := Aside0.mk H
              clear H
              have p109 : 0 ≤ (x6_1 : Int) := of_decide_eq_true (by first | (with_reducible assumption) | assumption)
              have q109 : x6_1 < (l0.length : Int) := of_decide_eq_true (by first | (with_reducible assumption) | assumption)
              obtain ⟨ad109, A109_5, c109_5, A109_6, c109_6, A109_7, c109_7, e109, hx109_0, hx109_1, hx109_2, hx109_3, hx109_4, hx109_5, hx109_6, hx109_7, hx109_8, hl109_5, hi109_5, hl109_6, hi109_6, hl109_7, hi109_7⟩ := at_T104 HR0.out x6_1 p109 q109
              obtain rfl : ad103 = ad109 := (by injection e109)
              have HR109_5 := Aside0.mk hi109_5
              have HC109_5 := Aside0.mk hl109_5
              clear hi109_5 hl109_5
              have HR109_6 := Aside0.mk hi109_6
              have HC109_6 := Aside0.mk hl109_6
              clear hi109_6 hl109_6
              have HR109_7 := Aside0.mk hi109_7
              have HC109_7 := Aside0.mk hl109_7
              clear hi109_7 hl109_7
              replace p109 := eq_true p109
              replace q109 := eq_true q109
              have p110 : 0 ≤ (x6_1 : Int) := of_decide_eq_true (by first | (with_reducible assumption) | assumption)
              have q110 : x6_1 < (l0.length : Int) := of_decide_eq_true (by first | (with_reducible assumption) | assumption)
              obtain ⟨ad110, A110_5, c110_5, A110_6, c110_6, A110_7, c110_7, e110, hx110_0, hx110_1, hx110_2, hx110_3, hx110_4, hx110_5, hx110_6, hx110_7, hx110_8, hl110_5, hi110_5, hl110_6, hi110_6, hl110_7, hi110_7⟩ := at_T104 HR0.out x6_1 p110 q110
              obtain rfl : ad103 = ad110 := (by injection e110)
              have HR110_5 := Aside0.mk hi110_5
              have HC110_5 := Aside0.mk hl110_5
              clear hi110_5 hl110_5
              have HR110_6 := Aside0.mk hi110_6
              have HC110_6 := Aside0.mk hl110_6
              clear hi110_6 hl110_6
              have HR110_7 := Aside0.mk hi110_7
              have HC110_7 := Aside0.mk hl110_7
              clear hi110_7 hl110_7
              replace p110 := eq_true p110
              replace q110 := eq_true q110
              have ea_ := Option.some.inj (hx109_5.symm.trans hx110_5)
              injection ea_ with ea_ en_ ec_
              subst ea_
              subst ec_
              clear en_
              have ea_ := Option.some.inj (hx109_6.symm.trans hx110_6)
              injection ea_ with ea_ en_ ec_
              subst ea_
              subst ec_
              clear en_
              have ea_ := Option.some.inj (hx109_7.symm.trans hx110_7)
              injection ea_ with ea_ en_ ec_
              subst ea_
              subst ec_
              clear en_
              go_wp2
              go_meet
              case rel => exact ⟨_, (decide (((rd_T104 l0 x6_1).f0) ≤ 4)), (by first | rfl | (simp; done) | (simp [*]; done)), H', ⟨by have := HK1.out; first | omega | exact Nat.le_refl _⟩, by repeat (first | exact Drawn0.refl _ | apply Drawn0.step)⟩
            · rw [if_neg c7] at H
              have c7b0 : decide (2 ≤ ((rd_T104 l0 x6_1).f0)) = false := decide_eq_false c7
              clear c7
              (first | rw [c7b0] | (simp only [i64_w, i32_w]; rw [c7b0]) | skip)
              have H' := Aside0.mk H
              clear H
              have p109 : 0 ≤ (x6_1 : Int) := of_decide_eq_true (by first | (with_reducible assumption) | assumption)
              have q109 : x6_1 < (l0.length : Int) := of_decide_eq_true (by first | (with_reducible assumption) | assumption)
              obtain ⟨ad109, A109_5, c109_5, A109_6, c109_6, A109_7, c109_7, e109, hx109_0, hx109_1, hx109_2, hx109_3, hx109_4, hx109_5, hx109_6, hx109_7, hx109_8, hl109_5, hi109_5, hl109_6, hi109_6, hl109_7, hi109_7⟩ := at_T104 HR0.out x6_1 p109 q109
              obtain rfl : ad103 = ad109 := (by injection e109)
              have HR109_5 := Aside0.mk hi109_5
              have HC109_5 := Aside0.mk hl109_5
              clear hi109_5 hl109_5
              have HR109_6 := Aside0.mk hi109_6
              have HC109_6 := Aside0.mk hl109_6
              clear hi109_6 hl109_6
              have HR109_7 := Aside0.mk hi109_7
              have HC109_7 := Aside0.mk hl109_7
              clear hi109_7 hl109_7
              replace p109 := eq_true p109
              replace q109 := eq_true q109
              go_wp2
              go_meet
              case rel => exact ⟨_, (false), (by first | rfl | (simp; done) | (simp [*]; done)), H', ⟨by have := HK1.out; first | omega | exact Nat.le_refl _⟩, by repeat (first | exact Drawn0.refl _ | apply Drawn0.step)⟩
          case rest =>
            clear HC6
            try clear c1
            try clear p1
            try clear q1
            try clear hx1
            try clear c2
            try clear c2b0
            try clear p2
            try clear c3
            try clear c3b0
            try clear c4
            try clear p6
            try clear c7
            try clear c7b0
            try clear hx103_0
            try clear hx103_1
            try clear hx103_2
            try clear hx103_3
            try clear hx103_4
            try clear hx103_5
            try clear hx103_6
            try clear hx103_7
            try clear hx103_8
            try clear hx106_0
            try clear hx106_1
            try clear hx106_2
            try clear hx106_3
            try clear hx106_4
            try clear hx106_5
            try clear hx106_6
            try clear hx106_7
            try clear hx106_8
            try clear hx109_0
            try clear hx109_1
            try clear hx109_2
            try clear hx109_3
            try clear hx109_4
            try clear hx109_5
            try clear hx109_6
            try clear hx109_7
            try clear hx109_8
            try clear hx110_0
            try clear hx110_1
            try clear hx110_2
            try clear hx110_3
            try clear hx110_4
            try clear hx110_5
            try clear hx110_6
            try clear hx110_7
            try clear hx110_8
            try clear p103
            try clear p106
            try clear p109
            try clear p110
            try clear q103
            try clear q106
            try clear q109
            try clear q110
            obtain ⟨kq, x54_5, rfl, HA, HJ5, ⟨mc5, rfl⟩⟩ := hcut
            cases kq with
            | zero => exact absurd HA.out (by simp [grommetref05_Count.j1])
            | succ kj5 =>
              have H := HA.out
              clear HA
              simp only [grommetref05_Count.j1] at H
              by_cases c8 : x54_5 = true
              · subst c8
                have H1 : (if (wrap64 (t105 + 1)) > x5_1 then (if (wrap64 (t108 + 1)) > (wrap64 (t105 + 1)) then (grommetref05_Count.l0 kj5 l0 (wrap64 ((wrap64 ((wrap64 (x4_1 + 1)) + t104)) + t107)) (wrap64 (t108 + 1)) (wrap64 (x6_1 + 1))) else (grommetref05_Count.l0 kj5 l0 (wrap64 ((wrap64 ((wrap64 (x4_1 + 1)) + t104)) + t107)) (wrap64 (t105 + 1)) (wrap64 (x6_1 + 1)))) else (if (wrap64 (t108 + 1)) > x5_1 then (grommetref05_Count.l0 kj5 l0 (wrap64 ((wrap64 ((wrap64 (x4_1 + 1)) + t104)) + t107)) (wrap64 (t108 + 1)) (wrap64 (x6_1 + 1))) else (grommetref05_Count.l0 kj5 l0 (wrap64 ((wrap64 ((wrap64 (x4_1 + 1)) + t104)) + t107)) x5_1 (wrap64 (x6_1 + 1))))) = some (r1, r2) := by rw [if_pos rfl] at H; exact H
                clear H
                have H := H1
                clear H1
                by_cases c9 : (wrap64 (t105 + 1)) > x5_1
                · rw [if_pos c9] at H
                  have c9b0 : decide (x5_1 < (wrap64 (t105 + 1))) = true := decide_eq_true c9
                  clear c9
                  by_cases c10 : (wrap64 (t108 + 1)) > (wrap64 (t105 + 1))
                  · rw [if_pos c10] at H
                    have c10b0 : decide ((wrap64 (t105 + 1)) < (wrap64 (t108 + 1))) = true := decide_eq_true c10
                    clear c10
                    have H' := Aside0.mk H
                    clear H
                    go_wp2
                    go_roundg kj5
                    case measure => have := HK1.out; have := HJ5.out; omega
                    case rel => exact ⟨((wrap64 ((wrap64 ((wrap64 (x4_1 + 1)) + t104)) + t107))), (wrap64 (t108 + 1)), (wrap64 (x6_1 + 1)), (by first | rfl | (simp; done) | (simp [*]; done)), (by first | rfl | (simp; done) | (simp [*]; done)), (by first | rfl | (simp; done) | (simp [*]; done)), H', ⟨by have := HK1.out; have := HJ5.out; omega⟩, by repeat (first | exact Drawn0.refl _ | apply Drawn0.step)⟩
                  · rw [if_neg c10] at H
                    have c10b0 : decide ((wrap64 (t105 + 1)) < (wrap64 (t108 + 1))) = false := decide_eq_false c10
                    clear c10
                    have H' := Aside0.mk H
                    clear H
                    go_wp2
                    go_roundg kj5
                    case measure => have := HK1.out; have := HJ5.out; omega
                    case rel => exact ⟨((wrap64 ((wrap64 ((wrap64 (x4_1 + 1)) + t104)) + t107))), (wrap64 (t105 + 1)), (wrap64 (x6_1 + 1)), (by first | rfl | (simp; done) | (simp [*]; done)), (by first | rfl | (simp; done) | (simp [*]; done)), (by first | rfl | (simp; done) | (simp [*]; done)), H', ⟨by have := HK1.out; have := HJ5.out; omega⟩, by repeat (first | exact Drawn0.refl _ | apply Drawn0.step)⟩
                · rw [if_neg c9] at H
                  have c9b0 : decide (x5_1 < (wrap64 (t105 + 1))) = false := decide_eq_false c9
                  clear c9
                  by_cases c11 : (wrap64 (t108 + 1)) > x5_1
                  · rw [if_pos c11] at H
                    have c11b0 : decide (x5_1 < (wrap64 (t108 + 1))) = true := decide_eq_true c11
                    clear c11
                    have H' := Aside0.mk H
                    clear H
                    go_wp2
                    go_roundg kj5
                    case measure => have := HK1.out; have := HJ5.out; omega
                    case rel => exact ⟨((wrap64 ((wrap64 ((wrap64 (x4_1 + 1)) + t104)) + t107))), (wrap64 (t108 + 1)), (wrap64 (x6_1 + 1)), (by first | rfl | (simp; done) | (simp [*]; done)), (by first | rfl | (simp; done) | (simp [*]; done)), (by first | rfl | (simp; done) | (simp [*]; done)), H', ⟨by have := HK1.out; have := HJ5.out; omega⟩, by repeat (first | exact Drawn0.refl _ | apply Drawn0.step)⟩
                  · rw [if_neg c11] at H
                    have c11b0 : decide (x5_1 < (wrap64 (t108 + 1))) = false := decide_eq_false c11
                    clear c11
                    have H' := Aside0.mk H
                    clear H
                    go_wp2
                    go_roundg kj5
                    case measure => have := HK1.out; have := HJ5.out; omega
                    case rel => exact ⟨((wrap64 ((wrap64 ((wrap64 (x4_1 + 1)) + t104)) + t107))), (x5_1), (wrap64 (x6_1 + 1)), (by first | rfl | (simp; done) | (simp [*]; done)), (by first | rfl | (simp; done) | (simp [*]; done)), (by first | rfl | (simp; done) | (simp [*]; done)), H', ⟨by have := HK1.out; have := HJ5.out; omega⟩, by repeat (first | exact Drawn0.refl _ | apply Drawn0.step)⟩
              · replace c8 := Bool.eq_false_iff.mpr c8
                subst c8
                have H1 : (grommetref05_Count.l0 kj5 l0 (wrap64 ((wrap64 ((wrap64 (x4_1 + 1)) + t104)) + t107)) x5_1 (wrap64 (x6_1 + 1))) = some (r1, r2) := by rw [if_neg (show ¬ (false = true) by decide)] at H; exact H
                clear H
                have H := H1
                clear H1
                have H' := Aside0.mk H
                clear H
                go_wp2
                go_roundg kj5
                case measure => have := HK1.out; have := HJ5.out; omega
                case rel => exact ⟨((wrap64 ((wrap64 ((wrap64 (x4_1 + 1)) + t104)) + t107))), (x5_1), (wrap64 (x6_1 + 1)), (by first | rfl | (simp; done) | (simp [*]; done)), (by first | rfl | (simp; done) | (simp [*]; done)), (by first | rfl | (simp; done) | (simp [*]; done)), H', ⟨by have := HK1.out; have := HJ5.out; omega⟩, by repeat (first | exact Drawn0.refl _ | apply Drawn0.step)⟩
        · rw [if_neg c3] at H
          exact absurd H (by simp)
      · rw [if_neg c2] at H
        have c2b0 : decide (x6_1 < (l0.length : Int)) = false := decide_eq_false c2
        clear c2
        simp only [Option.some.injEq, Prod.mk.injEq] at H
        obtain ⟨rfl, rfl⟩ := H
        go_wp2
        go_ret2
        exact ⟨by first | rfl | (simp; done) | (simp [*]; done), by repeat (first | exact Drawn0.refl _ | apply Drawn0.step)⟩

/-! ### grommetref05_few: function 26 -/
def grommetref05_few.f (k : Nat) (l0 : List (S104)) : Option (Bool) := (grommetref05_Count.f k l0).bind fun bt111 => (some (decide (bt111.1 ≤ 2000)))
theorem grommetref05_few.mono : ∀ a0 k, LeO (grommetref05_few.f k a0) (grommetref05_few.f (k + 1) a0) := by
  intro a0 k
  unfold grommetref05_few.f
  repeat' first
      | (with_reducible exact grommetref05_Count.mono _ _)
      | (with_reducible exact LeO.refl _)
      | (with_reducible exact LeO.none _)
      | (with_reducible refine LeO.ite ?_ ?_)
      | (with_reducible refine LeO.bind ?_ (fun _ => ?_))
      | exact grommetref05_Count.mono _ _
      | exact LeO.none _
      | refine LeO.ite ?_ ?_
      | refine LeO.bind ?_ (fun _ => ?_)
set_option maxHeartbeats 8000000 in
set_option maxRecDepth 100000 in
theorem grommetref05_few.calls (k : Nat) (A0 : Option Addr) (c0 : Nat) (l0 : List (S104)) (r : Bool) (w : World) (hr0 : Kd.C k104 w A0 l0.length l0) (hc0 : l0.length ≤ c0) (h : grommetref05_few.f k l0 = some r) :
    Calls Try.prog 26 #[.slice A0 l0.length c0] w fun e w' => e = .returned (.bool r) ∧ Drawn0 w w' := by
  have HR0 := Aside0.mk hr0
  have HC0 := Aside0.mk hc0
  clear hr0 hc0
  have H : ((grommetref05_Count.f k l0).bind fun bt111 => (some (decide (bt111.1 ≤ 2000)))) = some r := h
  clear h
  replace H := Option.bind_eq_some_iff.mp H
  obtain ⟨⟨t111, t112⟩, A20, H⟩ := H
  replace H : (some (decide (t111 ≤ 2000))) = some r := H
  have A2 := Aside0.mk A20
  clear A20
  obtain rfl := Option.some.inj H
  go_enter Try.func26, Try.ntmps26
  go_wp2_with (first | ((with_reducible refine gate_callee (f := 43) rfl ?_); refine goesL_ (some 7) rfl rfl Try.func43 (by kernel_rfl) rfl #[.slice A0 l0.length c0] rfl (by (try simp only [List.map_toArray, List.map_cons, List.map_nil]); first | done | rfl | (simp only [List.length_drop, List.length_take]; rfl)) ?_; (with_reducible refine (grommetref05_Count.calls k _ _ l0 t111 t112 _ ?side1 ?side2 A2.out).mono ?_); (case side1 => repeat (first | exact HR0.out | (with_reducible refine Kd.C_alloc ?_ _) | (with_reducible refine Kd.C_drewN ?_ _) | (with_reducible refine Kd.C_drew ?_))); (case side2 => exact HC0.out); rintro e w' ⟨rfl, ⟨nd, rfl⟩⟩; refine ⟨_, rfl, ?_⟩))
  go_ret
  exact ⟨by first | rfl | (simp; done) | (simp [*]; done), by repeat (first | exact Drawn0.refl _ | apply Drawn0.step)⟩

end Go.Proofs.Ytbelijoggbblgaa.RStoreExports
