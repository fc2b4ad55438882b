-- Made by the program wip/patchprint.py (this session's own, over the kit's print)
import Derived.Test.YtiicmihecdeebaaRListFlatsx0
namespace Go.Proofs.Ytiicmihecdeebaa.RListFlats
open Go.RowKit Go.Proofs.YtiicmihecdeebaaW.PrintWords Go.Proofs.YtiicmihecdeebaaW.PrintLast Go.Proofs.YtiicmihecdeebaaW.PrintMore
attribute [local go_sem] max2_int min2_int max_two min_two max_three min_three max_four min_four   -- for this text's walks alone
set_option linter.unusedVariables false
set_option linter.unusedSimpArgs false
set_option linter.unnecessarySimpa false

attribute [local simp] shl_zero
-- NOT PRINTED: function 16 (api_Token_16)

-- NOT PRINTED: function 14 (api_Token_14)

-- NOT PRINTED: function 8 (list_Parse)

-- NOT PRINTED: function 7 (grommetlaw10_up)

/-! ### grommetref10_Count: function 10 -/
mutual
def grommetref10_Count.l0 : Nat → List (S39) → Int → Int → Option (Int)
  | 0, _, _, _ => none
  | k + 1, x0, x3, x4 => if x4 < (x0.length : Int) then (if 0 ≤ x4 then ((grommetref10_Count.f k ((rd_T39 x0 x4).f3)).bind fun t105 => (grommetref10_Count.l0 k x0 (wrap64 (x3 + t105)) (wrap64 (x4 + 1)))) else (none)) else (some x3)
def grommetref10_Count.f : Nat → List (S39) → Option (Int)
  | 0, _ => none
  | k + 1, l0 => grommetref10_Count.l0 k l0 (l0.length : Int) 0
end
theorem grommetref10_Count.mono_l : ∀ k, (∀ y0, LeO (grommetref10_Count.f k y0) (grommetref10_Count.f (k + 1) y0)) ∧ (∀ y0 y1 y2, LeO (grommetref10_Count.l0 k y0 y1 y2) (grommetref10_Count.l0 (k + 1) y0 y1 y2))
  | 0 => ⟨fun _ r h => by simp [grommetref10_Count.f] at h, fun _ _ _ r h => by simp [grommetref10_Count.l0] at h⟩
  | k + 1 => by
    obtain ⟨ih0, ih1⟩ := grommetref10_Count.mono_l k
    refine ⟨?_, ?_⟩
    · intro y0
      unfold grommetref10_Count.f
      repeat' first
      | (with_reducible exact ih0 _)
      | (with_reducible exact ih1 _ _ _)
      | (with_reducible exact LeO.refl _)
      | (with_reducible exact LeO.none _)
      | (with_reducible refine LeO.ite ?_ ?_)
      | (with_reducible refine LeO.bind ?_ (fun _ => ?_))
      | exact ih0 _
      | exact ih1 _ _ _
      | exact LeO.none _
      | refine LeO.ite ?_ ?_
      | refine LeO.bind ?_ (fun _ => ?_)
    · intro y0 y1 y2
      unfold grommetref10_Count.l0
      repeat' first
      | (with_reducible exact ih0 _)
      | (with_reducible exact ih1 _ _ _)
      | (with_reducible exact LeO.refl _)
      | (with_reducible exact LeO.none _)
      | (with_reducible refine LeO.ite ?_ ?_)
      | (with_reducible refine LeO.bind ?_ (fun _ => ?_))
      | exact ih0 _
      | exact ih1 _ _ _
      | exact LeO.none _
      | refine LeO.ite ?_ ?_
      | refine LeO.bind ?_ (fun _ => ?_)
theorem grommetref10_Count.mono : ∀ a0 k, LeO (grommetref10_Count.f k a0) (grommetref10_Count.f (k + 1) a0) := by
  intro a0 k
  obtain ⟨ih0, ih1⟩ := grommetref10_Count.mono_l k
  exact ih0 a0
set_option maxHeartbeats 8000000 in
set_option maxRecDepth 100000 in
theorem grommetref10_Count.calls (k : Nat) : ∀ (A0 : Option Addr) (c0 : Nat) (l0 : List (S39)) (r : Int) (w : World) (hr0 : Kd.C k39 w A0 l0.length l0) (hc0 : l0.length ≤ c0) (h : grommetref10_Count.f k l0 = some r),
    Calls Try.prog 10 #[.slice A0 l0.length c0] w fun e w' => e = .returned (.int .i64 r) ∧ Drawn0 w w' := by
  induction k using Nat.strongRecOn with
  | _ k ih =>
  intro A0 c0 l0 r w hr0 hc0 h
  cases k with
  | zero => exact absurd h (by simp [grommetref10_Count.f])
  | succ k =>
  simp only [grommetref10_Count.f] at h
  have HR0 := Aside0.mk hr0
  have HC0 := Aside0.mk hc0
  clear hr0 hc0
  have H : (grommetref10_Count.l0 k l0 (l0.length : Int) 0) = some r := h
  clear h
  have H' := Aside0.mk H
  clear H
  go_enter Try.func10, Try.ntmps10
  go_wp2
  go_loopg [3, 4] k (fun kq v3 v4 w' => ∃ (x3_1 : Int) (x4_1 : Int), v3 = .int .i64 x3_1 ∧ v4 = .int .i64 x4_1 ∧ Aside0 (grommetref10_Count.l0 kq l0 x3_1 x4_1 = some r) ∧ Aside0 (kq ≤ k) ∧ Drawn0 w w')
  case atStart => exact ⟨((l0.length : Int)), (0), (by first | rfl | (simp; done) | (simp [*]; done)), (by first | rfl | (simp; done) | (simp [*]; done)), H', ⟨Nat.le_refl _⟩, by repeat (first | exact Drawn0.refl _ | apply Drawn0.step)⟩
  case round =>
    clear H'
    try clear c1
    obtain ⟨x3_1, x4_1, rfl, rfl, HA, HK1, ⟨m1, rfl⟩⟩ := hrel
    cases gk with
    | zero => exact absurd HA.out (by simp [grommetref10_Count.l0])
    | succ k1 =>
      have H := HA.out
      clear HA
      simp only [grommetref10_Count.l0] at H
      by_cases c2 : x4_1 < (l0.length : Int)
      · rw [if_pos c2] at H
        have c2b0 : decide (x4_1 < (l0.length : Int)) = true := decide_eq_true c2
        clear c2
        by_cases c3 : 0 ≤ x4_1
        · rw [if_pos c3] at H
          have c3b0 : decide (0 ≤ x4_1) = true := decide_eq_true c3
          clear c3
          replace H := Option.bind_eq_some_iff.mp H
          obtain ⟨t105, A40, H⟩ := H
          replace H : (grommetref10_Count.l0 k1 l0 (wrap64 (x3_1 + t105)) (wrap64 (x4_1 + 1))) = some r := H
          have A4 := Aside0.mk A40
          clear A40
          have H' := Aside0.mk H
          clear H
          have p104 : 0 ≤ (x4_1 : Int) := of_decide_eq_true (by first | (with_reducible assumption) | assumption)
          have q104 : x4_1 < (l0.length : Int) := of_decide_eq_true (by first | (with_reducible assumption) | assumption)
          obtain ⟨ad104, A104_3, c104_3, e104, hx104_0, hx104_1, hx104_2, hx104_3, hl104_3, hi104_3⟩ := at_T39 HR0.out x4_1 p104 q104
          cases e104
          have HR104_3 := Aside0.mk hi104_3
          have HC104_3 := Aside0.mk hl104_3
          clear hi104_3 hl104_3
          replace p104 := eq_true p104
          replace q104 := eq_true q104
          go_wp2_with (first | ((with_reducible refine gate_callee (f := 10) rfl ?_); refine goesL_ (some 19) rfl rfl Try.func10 (by kernel_rfl) rfl #[.slice A104_3 ((rd_T39 l0 x4_1).f3).length c104_3] rfl (by (try simp only [List.map_toArray, List.map_cons, List.map_nil]); first | done | rfl | (simp only [List.length_drop, List.length_take]; rfl)) ?_; (with_reducible refine (ih k1 (by have := HK1.out; omega) _ _ ((rd_T39 l0 x4_1).f3) t105 _ ?side1 ?side2 A4.out).mono ?_); (case side1 => repeat (first | exact HR104_3.out | (with_reducible refine Kd.C_alloc ?_ _) | (with_reducible refine Kd.C_drewN ?_ _) | (with_reducible refine Kd.C_drew ?_))); (case side2 => exact HC104_3.out); rintro e w' ⟨rfl, ⟨nd, rfl⟩⟩; refine ⟨_, rfl, ?_⟩))
          go_roundg k1
          case measure => have := HK1.out; omega
          case rel => exact ⟨(wrap64 (x3_1 + t105)), (wrap64 (x4_1 + 1)), (by first | rfl | (simp; done) | (simp [*]; done)), (by first | rfl | (simp; done) | (simp [*]; done)), H', ⟨by have := HK1.out; omega⟩, by repeat (first | exact Drawn0.refl _ | apply Drawn0.step)⟩
        · rw [if_neg c3] at H
          exact absurd H (by simp)
      · rw [if_neg c2] at H
        have c2b0 : decide (x4_1 < (l0.length : Int)) = false := decide_eq_false c2
        clear c2
        obtain rfl := Option.some.inj H
        go_wp2
        go_ret
        exact ⟨by first | rfl | (simp; done) | (simp [*]; done), by repeat (first | exact Drawn0.refl _ | apply Drawn0.step)⟩

/-! ### grommetlaw09_Same: function 11 -/
def grommetlaw09_Same.l0 : Nat → List (S36) → List (S36) → Bool → Int → Option (Bool)
  | 0, _, _, _, _ => none
  | k + 1, x0, x1, x2, x7 => if x7 < (x0.length : Int) then (if 0 ≤ x7 then (if x7 < (x1.length : Int) then (if ((rd_T36 x0 x7).f0) = ((rd_T36 x1 x7).f0) then (if ((rd_T36 x0 x7).f2).toList = ((rd_T36 x1 x7).f2).toList then (if x2 = true then (if ((rd_T36 x0 x7).f1) = ((rd_T36 x1 x7).f1) then (grommetlaw09_Same.l0 k x0 x1 x2 (wrap64 (x7 + 1))) else (some false)) else (grommetlaw09_Same.l0 k x0 x1 x2 (wrap64 (x7 + 1)))) else (some false)) else (some false)) else (none)) else (none)) else (some true)
def grommetlaw09_Same.f (k : Nat) (l0 : List (S36)) (l1 : List (S36)) (a2 : Bool) : Option (Bool) := if (l0.length : Int) = (l1.length : Int) then (grommetlaw09_Same.l0 k l0 l1 a2 0) else (some false)
theorem grommetlaw09_Same.mono_l : ∀ k, (∀ y0 y1 y2 y3, LeO (grommetlaw09_Same.l0 k y0 y1 y2 y3) (grommetlaw09_Same.l0 (k + 1) y0 y1 y2 y3))
  | 0 => fun _ _ _ _ r h => by simp [grommetlaw09_Same.l0] at h
  | k + 1 => by
    have ih0 := grommetlaw09_Same.mono_l k
    · intro y0 y1 y2 y3
      unfold grommetlaw09_Same.l0
      repeat' first
      | (with_reducible exact ih0 _ _ _ _)
      | (with_reducible exact LeO.refl _)
      | (with_reducible exact LeO.none _)
      | (with_reducible refine LeO.ite ?_ ?_)
      | (with_reducible refine LeO.bind ?_ (fun _ => ?_))
      | exact ih0 _ _ _ _
      | exact LeO.none _
      | refine LeO.ite ?_ ?_
      | refine LeO.bind ?_ (fun _ => ?_)
theorem grommetlaw09_Same.mono : ∀ a0 a1 a2 k, LeO (grommetlaw09_Same.f k a0 a1 a2) (grommetlaw09_Same.f (k + 1) a0 a1 a2) := by
  intro a0 a1 a2 k
  have ih0 := grommetlaw09_Same.mono_l k
  unfold grommetlaw09_Same.f
  repeat' first
      | (with_reducible exact ih0 _ _ _ _)
      | (with_reducible exact LeO.refl _)
      | (with_reducible exact LeO.none _)
      | (with_reducible refine LeO.ite ?_ ?_)
      | (with_reducible refine LeO.bind ?_ (fun _ => ?_))
      | exact ih0 _ _ _ _
      | exact LeO.none _
      | refine LeO.ite ?_ ?_
      | refine LeO.bind ?_ (fun _ => ?_)
set_option maxHeartbeats 8000000 in
set_option maxRecDepth 100000 in
theorem grommetlaw09_Same.calls (k : Nat) (A0 : Option Addr) (c0 : Nat) (l0 : List (S36)) (A1 : Option Addr) (c1 : Nat) (l1 : List (S36)) (a2 : Bool) (r : Bool) (w : World) (hr0 : Kd.C k36 w A0 l0.length l0) (hc0 : l0.length ≤ c0) (hr1 : Kd.C k36 w A1 l1.length l1) (hc1 : l1.length ≤ c1) (h : grommetlaw09_Same.f k l0 l1 a2 = some r) :
    Calls Try.prog 11 #[.slice A0 l0.length c0, .slice A1 l1.length c1, .bool a2] w fun e w' => e = .returned (.bool r) ∧ Drawn0 w w' := by
  have HR0 := Aside0.mk hr0
  have HC0 := Aside0.mk hc0
  clear hr0 hc0
  have HR1 := Aside0.mk hr1
  have HC1 := Aside0.mk hc1
  clear hr1 hc1
  have H : (if (l0.length : Int) = (l1.length : Int) then (grommetlaw09_Same.l0 k l0 l1 a2 0) else (some false)) = some r := h
  clear h
  by_cases c4 : (l0.length : Int) = (l1.length : Int)
  · rw [if_pos c4] at H
    have c4b0 : ((l0.length : Int) == (l1.length : Int)) = true := beq_iff_eq.mpr c4
    have c4b1 : ((l0.length : Int) != (l1.length : Int)) = false := bne_eq_false_iff_eq.mpr c4
    have c4b2 : (l0.length == l1.length) = true := by first | simpa using c4 | (simp at c4 ⊢; omega)
    clear c4
    have H' := Aside0.mk H
    clear H
    go_enter Try.func11, Try.ntmps11
    go_wp2
    repeat (go_quiet (fail); try go_wp2)
    go_loopg [7] k (fun kq v7 w' => ∃ (x7_1 : Int), v7 = .int .i64 x7_1 ∧ Aside0 (grommetlaw09_Same.l0 kq l0 l1 a2 x7_1 = some r) ∧ Aside0 (kq ≤ k) ∧ Drawn0 w w')
    case atStart => exact ⟨(0), (by first | rfl | (simp; done) | (simp [*]; done)), H', ⟨Nat.le_refl _⟩, by repeat (first | exact Drawn0.refl _ | apply Drawn0.step)⟩
    case round =>
      clear H'
      try clear c1
      try clear p2
      try clear c4
      try clear c4b0
      try clear c4b1
      try clear c4b2
      obtain ⟨x7_1, rfl, HA, HK1, ⟨m1, rfl⟩⟩ := hrel
      cases gk with
      | zero => exact absurd HA.out (by simp [grommetlaw09_Same.l0])
      | succ k1 =>
        have H := HA.out
        clear HA
        simp only [grommetlaw09_Same.l0] at H
        by_cases c5 : x7_1 < (l0.length : Int)
        · rw [if_pos c5] at H
          have c5b0 : decide (x7_1 < (l0.length : Int)) = true := decide_eq_true c5
          clear c5
          by_cases c6 : 0 ≤ x7_1
          · rw [if_pos c6] at H
            have c6b0 : decide (0 ≤ x7_1) = true := decide_eq_true c6
            clear c6
            by_cases c7 : x7_1 < (l1.length : Int)
            · rw [if_pos c7] at H
              have c7b0 : decide (x7_1 < (l1.length : Int)) = true := decide_eq_true c7
              clear c7
              by_cases c8 : ((rd_T36 l0 x7_1).f0) = ((rd_T36 l1 x7_1).f0)
              · rw [if_pos c8] at H
                have c8b0 : (((rd_T36 l0 x7_1).f0) == ((rd_T36 l1 x7_1).f0)) = true := beq_iff_eq.mpr c8
                have c8b1 : (((rd_T36 l0 x7_1).f0) != ((rd_T36 l1 x7_1).f0)) = false := bne_eq_false_iff_eq.mpr c8
                clear c8
                by_cases c9 : ((rd_T36 l0 x7_1).f2).toList = ((rd_T36 l1 x7_1).f2).toList
                · rw [if_pos c9] at H
                  have c9b0 : (((rd_T36 l0 x7_1).f2).toList == ((rd_T36 l1 x7_1).f2).toList) = true := beq_iff_eq.mpr c9
                  have c9b1 : (((rd_T36 l0 x7_1).f2).toList != ((rd_T36 l1 x7_1).f2).toList) = false := bne_eq_false_iff_eq.mpr c9
                  clear c9
                  by_cases c10 : a2 = true
                  · subst c10
                    have H1 : (if ((rd_T36 l0 x7_1).f1) = ((rd_T36 l1 x7_1).f1) then (grommetlaw09_Same.l0 k1 l0 l1 true (wrap64 (x7_1 + 1))) else (some false)) = some r := by rw [if_pos rfl] at H; exact H
                    clear H
                    have H := H1
                    clear H1
                    by_cases c11 : ((rd_T36 l0 x7_1).f1) = ((rd_T36 l1 x7_1).f1)
                    · rw [if_pos c11] at H
                      have c11b0 : (((rd_T36 l0 x7_1).f1) == ((rd_T36 l1 x7_1).f1)) = true := beq_iff_eq.mpr c11
                      have c11b1 : (((rd_T36 l0 x7_1).f1) != ((rd_T36 l1 x7_1).f1)) = false := bne_eq_false_iff_eq.mpr c11
                      clear c11
                      have H' := Aside0.mk H
                      clear H
                      have p106 : 0 ≤ (x7_1 : Int) := of_decide_eq_true (by first | (with_reducible assumption) | assumption)
                      have q106 : x7_1 < (l0.length : Int) := of_decide_eq_true (by first | (with_reducible assumption) | assumption)
                      obtain ⟨ad106, e106, hx106_0, hx106_1, hx106_2⟩ := at_T36 HR0.out x7_1 p106 q106
                      cases e106
                      replace p106 := eq_true p106
                      replace q106 := eq_true q106
                      have p107 : 0 ≤ (x7_1 : Int) := of_decide_eq_true (by first | (with_reducible assumption) | assumption)
                      have q107 : x7_1 < (l1.length : Int) := of_decide_eq_true (by first | (with_reducible assumption) | assumption)
                      obtain ⟨ad107, e107, hx107_0, hx107_1, hx107_2⟩ := at_T36 HR1.out x7_1 p107 q107
                      cases e107
                      replace p107 := eq_true p107
                      replace q107 := eq_true q107
                      have p108 : 0 ≤ (x7_1 : Int) := of_decide_eq_true (by first | (with_reducible assumption) | assumption)
                      have q108 : x7_1 < (l0.length : Int) := of_decide_eq_true (by first | (with_reducible assumption) | assumption)
                      obtain ⟨ad108, e108, hx108_0, hx108_1, hx108_2⟩ := at_T36 HR0.out x7_1 p108 q108
                      obtain rfl : ad106 = ad108 := (by injection e108)
                      replace p108 := eq_true p108
                      replace q108 := eq_true q108
                      have p109 : 0 ≤ (x7_1 : Int) := of_decide_eq_true (by first | (with_reducible assumption) | assumption)
                      have q109 : x7_1 < (l1.length : Int) := of_decide_eq_true (by first | (with_reducible assumption) | assumption)
                      obtain ⟨ad109, e109, hx109_0, hx109_1, hx109_2⟩ := at_T36 HR1.out x7_1 p109 q109
                      obtain rfl : ad107 = ad109 := (by injection e109)
                      replace p109 := eq_true p109
                      replace q109 := eq_true q109
                      have p110 : 0 ≤ (x7_1 : Int) := of_decide_eq_true (by first | (with_reducible assumption) | assumption)
                      have q110 : x7_1 < (l0.length : Int) := of_decide_eq_true (by first | (with_reducible assumption) | assumption)
                      obtain ⟨ad110, e110, hx110_0, hx110_1, hx110_2⟩ := at_T36 HR0.out x7_1 p110 q110
                      obtain rfl : ad106 = ad110 := (by injection e110)
                      replace p110 := eq_true p110
                      replace q110 := eq_true q110
                      have p111 : 0 ≤ (x7_1 : Int) := of_decide_eq_true (by first | (with_reducible assumption) | assumption)
                      have q111 : x7_1 < (l1.length : Int) := of_decide_eq_true (by first | (with_reducible assumption) | assumption)
                      obtain ⟨ad111, e111, hx111_0, hx111_1, hx111_2⟩ := at_T36 HR1.out x7_1 p111 q111
                      obtain rfl : ad107 = ad111 := (by injection e111)
                      replace p111 := eq_true p111
                      replace q111 := eq_true q111
                      go_wp2
                      repeat (go_quiet (fail); try go_wp2)
                      go_roundg k1
                      case measure => have := HK1.out; omega
                      case rel => exact ⟨(wrap64 (x7_1 + 1)), (by first | rfl | (simp; done) | (simp [*]; done)), H', ⟨by have := HK1.out; omega⟩, by repeat (first | exact Drawn0.refl _ | apply Drawn0.step)⟩
                    · rw [if_neg c11] at H
                      have c11b0 : (((rd_T36 l0 x7_1).f1) == ((rd_T36 l1 x7_1).f1)) = false := beq_eq_false_iff_ne.mpr c11
                      have c11b1 : (((rd_T36 l0 x7_1).f1) != ((rd_T36 l1 x7_1).f1)) = true := bne_iff_ne.mpr c11
                      obtain rfl := Option.some.inj H
                      have p106 : 0 ≤ (x7_1 : Int) := of_decide_eq_true (by first | (with_reducible assumption) | assumption)
                      have q106 : x7_1 < (l0.length : Int) := of_decide_eq_true (by first | (with_reducible assumption) | assumption)
                      obtain ⟨ad106, e106, hx106_0, hx106_1, hx106_2⟩ := at_T36 HR0.out x7_1 p106 q106
                      cases e106
                      replace p106 := eq_true p106
                      replace q106 := eq_true q106
                      have p107 : 0 ≤ (x7_1 : Int) := of_decide_eq_true (by first | (with_reducible assumption) | assumption)
                      have q107 : x7_1 < (l1.length : Int) := of_decide_eq_true (by first | (with_reducible assumption) | assumption)
                      obtain ⟨ad107, e107, hx107_0, hx107_1, hx107_2⟩ := at_T36 HR1.out x7_1 p107 q107
                      cases e107
                      replace p107 := eq_true p107
                      replace q107 := eq_true q107
                      have p108 : 0 ≤ (x7_1 : Int) := of_decide_eq_true (by first | (with_reducible assumption) | assumption)
                      have q108 : x7_1 < (l0.length : Int) := of_decide_eq_true (by first | (with_reducible assumption) | assumption)
                      obtain ⟨ad108, e108, hx108_0, hx108_1, hx108_2⟩ := at_T36 HR0.out x7_1 p108 q108
                      obtain rfl : ad106 = ad108 := (by injection e108)
                      replace p108 := eq_true p108
                      replace q108 := eq_true q108
                      have p109 : 0 ≤ (x7_1 : Int) := of_decide_eq_true (by first | (with_reducible assumption) | assumption)
                      have q109 : x7_1 < (l1.length : Int) := of_decide_eq_true (by first | (with_reducible assumption) | assumption)
                      obtain ⟨ad109, e109, hx109_0, hx109_1, hx109_2⟩ := at_T36 HR1.out x7_1 p109 q109
                      obtain rfl : ad107 = ad109 := (by injection e109)
                      replace p109 := eq_true p109
                      replace q109 := eq_true q109
                      have p110 : 0 ≤ (x7_1 : Int) := of_decide_eq_true (by first | (with_reducible assumption) | assumption)
                      have q110 : x7_1 < (l0.length : Int) := of_decide_eq_true (by first | (with_reducible assumption) | assumption)
                      obtain ⟨ad110, e110, hx110_0, hx110_1, hx110_2⟩ := at_T36 HR0.out x7_1 p110 q110
                      obtain rfl : ad106 = ad110 := (by injection e110)
                      replace p110 := eq_true p110
                      replace q110 := eq_true q110
                      have p111 : 0 ≤ (x7_1 : Int) := of_decide_eq_true (by first | (with_reducible assumption) | assumption)
                      have q111 : x7_1 < (l1.length : Int) := of_decide_eq_true (by first | (with_reducible assumption) | assumption)
                      obtain ⟨ad111, e111, hx111_0, hx111_1, hx111_2⟩ := at_T36 HR1.out x7_1 p111 q111
                      obtain rfl : ad107 = ad111 := (by injection e111)
                      replace p111 := eq_true p111
                      replace q111 := eq_true q111
                      go_wp2
                      repeat (go_quiet (fail); try go_wp2)
                      go_ret
                      exact ⟨by first | rfl | (simp; done) | (simp [*]; done), by repeat (first | exact Drawn0.refl _ | apply Drawn0.step)⟩
                  · replace c10 := Bool.eq_false_iff.mpr c10
                    subst c10
                    have H1 : (grommetlaw09_Same.l0 k1 l0 l1 false (wrap64 (x7_1 + 1))) = some r := by rw [if_neg (show ¬ (false = true) by decide)] at H; exact H
                    clear H
                    have H := H1
                    clear H1
                    have H' := Aside0.mk H
                    clear H
                    have p106 : 0 ≤ (x7_1 : Int) := of_decide_eq_true (by first | (with_reducible assumption) | assumption)
                    have q106 : x7_1 < (l0.length : Int) := of_decide_eq_true (by first | (with_reducible assumption) | assumption)
                    obtain ⟨ad106, e106, hx106_0, hx106_1, hx106_2⟩ := at_T36 HR0.out x7_1 p106 q106
                    cases e106
                    replace p106 := eq_true p106
                    replace q106 := eq_true q106
                    have p107 : 0 ≤ (x7_1 : Int) := of_decide_eq_true (by first | (with_reducible assumption) | assumption)
                    have q107 : x7_1 < (l1.length : Int) := of_decide_eq_true (by first | (with_reducible assumption) | assumption)
                    obtain ⟨ad107, e107, hx107_0, hx107_1, hx107_2⟩ := at_T36 HR1.out x7_1 p107 q107
                    cases e107
                    replace p107 := eq_true p107
                    replace q107 := eq_true q107
                    have p108 : 0 ≤ (x7_1 : Int) := of_decide_eq_true (by first | (with_reducible assumption) | assumption)
                    have q108 : x7_1 < (l0.length : Int) := of_decide_eq_true (by first | (with_reducible assumption) | assumption)
                    obtain ⟨ad108, e108, hx108_0, hx108_1, hx108_2⟩ := at_T36 HR0.out x7_1 p108 q108
                    obtain rfl : ad106 = ad108 := (by injection e108)
                    replace p108 := eq_true p108
                    replace q108 := eq_true q108
                    have p109 : 0 ≤ (x7_1 : Int) := of_decide_eq_true (by first | (with_reducible assumption) | assumption)
                    have q109 : x7_1 < (l1.length : Int) := of_decide_eq_true (by first | (with_reducible assumption) | assumption)
                    obtain ⟨ad109, e109, hx109_0, hx109_1, hx109_2⟩ := at_T36 HR1.out x7_1 p109 q109
                    obtain rfl : ad107 = ad109 := (by injection e109)
                    replace p109 := eq_true p109
                    replace q109 := eq_true q109
                    go_wp2
                    repeat (go_quiet (fail); try go_wp2)
                    go_roundg k1
                    case measure => have := HK1.out; omega
                    case rel => exact ⟨(wrap64 (x7_1 + 1)), (by first | rfl | (simp; done) | (simp [*]; done)), H', ⟨by have := HK1.out; omega⟩, by repeat (first | exact Drawn0.refl _ | apply Drawn0.step)⟩
                · rw [if_neg c9] at H
                  have c9b0 : (((rd_T36 l0 x7_1).f2).toList == ((rd_T36 l1 x7_1).f2).toList) = false := beq_eq_false_iff_ne.mpr c9
                  have c9b1 : (((rd_T36 l0 x7_1).f2).toList != ((rd_T36 l1 x7_1).f2).toList) = true := bne_iff_ne.mpr c9
                  obtain rfl := Option.some.inj H
                  have p106 : 0 ≤ (x7_1 : Int) := of_decide_eq_true (by first | (with_reducible assumption) | assumption)
                  have q106 : x7_1 < (l0.length : Int) := of_decide_eq_true (by first | (with_reducible assumption) | assumption)
                  obtain ⟨ad106, e106, hx106_0, hx106_1, hx106_2⟩ := at_T36 HR0.out x7_1 p106 q106
                  cases e106
                  replace p106 := eq_true p106
                  replace q106 := eq_true q106
                  have p107 : 0 ≤ (x7_1 : Int) := of_decide_eq_true (by first | (with_reducible assumption) | assumption)
                  have q107 : x7_1 < (l1.length : Int) := of_decide_eq_true (by first | (with_reducible assumption) | assumption)
                  obtain ⟨ad107, e107, hx107_0, hx107_1, hx107_2⟩ := at_T36 HR1.out x7_1 p107 q107
                  cases e107
                  replace p107 := eq_true p107
                  replace q107 := eq_true q107
                  have p108 : 0 ≤ (x7_1 : Int) := of_decide_eq_true (by first | (with_reducible assumption) | assumption)
                  have q108 : x7_1 < (l0.length : Int) := of_decide_eq_true (by first | (with_reducible assumption) | assumption)
                  obtain ⟨ad108, e108, hx108_0, hx108_1, hx108_2⟩ := at_T36 HR0.out x7_1 p108 q108
                  obtain rfl : ad106 = ad108 := (by injection e108)
                  replace p108 := eq_true p108
                  replace q108 := eq_true q108
                  have p109 : 0 ≤ (x7_1 : Int) := of_decide_eq_true (by first | (with_reducible assumption) | assumption)
                  have q109 : x7_1 < (l1.length : Int) := of_decide_eq_true (by first | (with_reducible assumption) | assumption)
                  obtain ⟨ad109, e109, hx109_0, hx109_1, hx109_2⟩ := at_T36 HR1.out x7_1 p109 q109
                  obtain rfl : ad107 = ad109 := (by injection e109)
                  replace p109 := eq_true p109
                  replace q109 := eq_true q109
                  go_wp2
                  repeat (go_quiet (fail); try go_wp2)
                  go_ret
                  exact ⟨by first | rfl | (simp; done) | (simp [*]; done), by repeat (first | exact Drawn0.refl _ | apply Drawn0.step)⟩
              · rw [if_neg c8] at H
                have c8b0 : (((rd_T36 l0 x7_1).f0) == ((rd_T36 l1 x7_1).f0)) = false := beq_eq_false_iff_ne.mpr c8
                have c8b1 : (((rd_T36 l0 x7_1).f0) != ((rd_T36 l1 x7_1).f0)) = true := bne_iff_ne.mpr c8
                obtain rfl := Option.some.inj H
                have p106 : 0 ≤ (x7_1 : Int) := of_decide_eq_true (by first | (with_reducible assumption) | assumption)
                have q106 : x7_1 < (l0.length : Int) := of_decide_eq_true (by first | (with_reducible assumption) | assumption)
                obtain ⟨ad106, e106, hx106_0, hx106_1, hx106_2⟩ := at_T36 HR0.out x7_1 p106 q106
                cases e106
                replace p106 := eq_true p106
                replace q106 := eq_true q106
                have p107 : 0 ≤ (x7_1 : Int) := of_decide_eq_true (by first | (with_reducible assumption) | assumption)
                have q107 : x7_1 < (l1.length : Int) := of_decide_eq_true (by first | (with_reducible assumption) | assumption)
                obtain ⟨ad107, e107, hx107_0, hx107_1, hx107_2⟩ := at_T36 HR1.out x7_1 p107 q107
                cases e107
                replace p107 := eq_true p107
                replace q107 := eq_true q107
                go_wp2
                repeat (go_quiet (fail); try go_wp2)
                go_ret
                exact ⟨by first | rfl | (simp; done) | (simp [*]; done), by repeat (first | exact Drawn0.refl _ | apply Drawn0.step)⟩
            · rw [if_neg c7] at H
              exact absurd H (by simp)
          · rw [if_neg c6] at H
            exact absurd H (by simp)
        · rw [if_neg c5] at H
          have c5b0 : decide (x7_1 < (l0.length : Int)) = false := decide_eq_false c5
          clear c5
          obtain rfl := Option.some.inj H
          go_wp2
          repeat (go_quiet (fail); try go_wp2)
          go_ret
          exact ⟨by first | rfl | (simp; done) | (simp [*]; done), by repeat (first | exact Drawn0.refl _ | apply Drawn0.step)⟩
  · rw [if_neg c4] at H
    have c4b0 : ((l0.length : Int) == (l1.length : Int)) = false := beq_eq_false_iff_ne.mpr c4
    have c4b1 : ((l0.length : Int) != (l1.length : Int)) = true := bne_iff_ne.mpr c4
    have c4b2 : (l0.length == l1.length) = false := by first | simpa using c4 | (simp at c4 ⊢; omega)
    obtain rfl := Option.some.inj H
    go_enter Try.func11, Try.ntmps11
    go_wp2
    repeat (go_quiet (fail); try go_wp2)
    go_ret
    exact ⟨by first | rfl | (simp; done) | (simp [*]; done), by repeat (first | exact Drawn0.refl _ | apply Drawn0.step)⟩

/-! ### list_Flat: function 12 -/
mutual
def list_Flat.l0 : Nat → List (S36) → List (S39) → Int → Int → Option ((List (S36)))
  | 0, _, _, _, _ => none
  | k + 1, x3, x6, x7, x8 => if x8 < x7 then (if 0 ≤ x8 then (if x8 < (x6.length : Int) then (if ((rd_T39 x6 x8).f0) = 4 then (list_Flat.j1 k x3 x6 x7 x8 ((rd_T39 x6 x8).f0) (((rd_T39 x6 x8).f0) == 4) ((rd_T39 x6 x8).f0) ((rd_T39 x6 x8).f1) ((rd_T39 x6 x8).f2) ((rd_T39 x6 x8).f3)) else (list_Flat.j1 k x3 x6 x7 x8 ((rd_T39 x6 x8).f0) (((rd_T39 x6 x8).f0) == 3) ((rd_T39 x6 x8).f0) ((rd_T39 x6 x8).f1) ((rd_T39 x6 x8).f2) ((rd_T39 x6 x8).f3))) else (none)) else (none)) else (some x3)
def list_Flat.j1 : Nat → List (S36) → List (S39) → Int → Int → Int → Bool → Int → Int → ByteArray → List (S39) → Option ((List (S36)))
  | 0, _, _, _, _, _, _, _, _, _, _ => none
  | k + 1, x3, x6, x7, x8, x13, x14, x114000, x114001, x114002, x114003 => if x14 = true then (if x3.length < 4398046511104 then (list_Flat.l0 k (x3 ++ [(⟨x114000, x114001, x114002⟩ : S36)]) x6 x7 (wrap64 (x8 + 1))) else (none)) else (if x13 = 1 then (if x3.length < 4398046511104 then ((some (x3 ++ [(⟨1, x114001, (⟨#[]⟩ : ByteArray)⟩ : S36)] : List (S36))).bind fun y117 => ((list_Flat.f k x114003).bind fun t120 => (if y117.length + t120.length < 4398046511104 then ((some (y117 ++ t120 : List (S36))).bind fun y123 => (if y123.length < 4398046511104 then (list_Flat.l0 k (y123 ++ [(⟨2, x114001, (⟨#[]⟩ : ByteArray)⟩ : S36)]) x6 x7 (wrap64 (x8 + 1))) else (none))) else (none)))) else (none)) else (list_Flat.l0 k x3 x6 x7 (wrap64 (x8 + 1))))
def list_Flat.f : Nat → List (S39) → Option ((List (S36)))
  | 0, _ => none
  | k + 1, l0 => list_Flat.l0 k ([] : List (S36)) l0 (l0.length : Int) 0
end
theorem list_Flat.mono_l : ∀ k, (∀ y0, LeO (list_Flat.f k y0) (list_Flat.f (k + 1) y0)) ∧ (∀ y0 y1 y2 y3, LeO (list_Flat.l0 k y0 y1 y2 y3) (list_Flat.l0 (k + 1) y0 y1 y2 y3)) ∧ (∀ y0 y1 y2 y3 y4 y5 y6 y7 y8 y9, LeO (list_Flat.j1 k y0 y1 y2 y3 y4 y5 y6 y7 y8 y9) (list_Flat.j1 (k + 1) y0 y1 y2 y3 y4 y5 y6 y7 y8 y9))
  | 0 => ⟨fun _ r h => by simp [list_Flat.f] at h, fun _ _ _ _ r h => by simp [list_Flat.l0] at h, fun _ _ _ _ _ _ _ _ _ _ r h => by simp [list_Flat.j1] at h⟩
  | k + 1 => by
    obtain ⟨ih0, ih1, ih2⟩ := list_Flat.mono_l k
    refine ⟨?_, ?_, ?_⟩
    · intro y0
      unfold list_Flat.f
      repeat' first
      | (with_reducible exact ih0 _)
      | (with_reducible exact ih1 _ _ _ _)
      | (with_reducible exact ih2 _ _ _ _ _ _ _ _ _ _)
      | (with_reducible exact LeO.refl _)
      | (with_reducible exact LeO.none _)
      | (with_reducible refine LeO.ite ?_ ?_)
      | (with_reducible refine LeO.bind ?_ (fun _ => ?_))
      | exact ih0 _
      | exact ih1 _ _ _ _
      | exact ih2 _ _ _ _ _ _ _ _ _ _
      | exact LeO.none _
      | refine LeO.ite ?_ ?_
      | refine LeO.bind ?_ (fun _ => ?_)
    · intro y0 y1 y2 y3
      unfold list_Flat.l0
      repeat' first
      | (with_reducible exact ih0 _)
      | (with_reducible exact ih1 _ _ _ _)
      | (with_reducible exact ih2 _ _ _ _ _ _ _ _ _ _)
      | (with_reducible exact LeO.refl _)
      | (with_reducible exact LeO.none _)
      | (with_reducible refine LeO.ite ?_ ?_)
      | (with_reducible refine LeO.bind ?_ (fun _ => ?_))
      | exact ih0 _
      | exact ih1 _ _ _ _
      | exact ih2 _ _ _ _ _ _ _ _ _ _
      | exact LeO.none _
      | refine LeO.ite ?_ ?_
      | refine LeO.bind ?_ (fun _ => ?_)
    · intro y0 y1 y2 y3 y4 y5 y6 y7 y8 y9
      unfold list_Flat.j1
      repeat' first
      | (with_reducible exact ih0 _)
      | (with_reducible exact ih1 _ _ _ _)
      | (with_reducible exact ih2 _ _ _ _ _ _ _ _ _ _)
      | (with_reducible exact LeO.refl _)
      | (with_reducible exact LeO.none _)
      | (with_reducible refine LeO.ite ?_ ?_)
      | (with_reducible refine LeO.bind ?_ (fun _ => ?_))
      | exact ih0 _
      | exact ih1 _ _ _ _
      | exact ih2 _ _ _ _ _ _ _ _ _ _
      | exact LeO.none _
      | refine LeO.ite ?_ ?_
      | refine LeO.bind ?_ (fun _ => ?_)
theorem list_Flat.mono : ∀ a0 k, LeO (list_Flat.f k a0) (list_Flat.f (k + 1) a0) := by
  intro a0 k
  obtain ⟨ih0, ih1, ih2⟩ := list_Flat.mono_l k
  exact ih0 a0
set_option maxHeartbeats 8000000 in
set_option maxRecDepth 100000 in
theorem list_Flat.calls (k : Nat) : ∀ (A0 : Option Addr) (c0 : Nat) (l0 : List (S39)) (r : List (S36)) (w : World) (hr0 : Kd.C k39 w A0 l0.length l0) (hc0 : l0.length ≤ c0) (h : list_Flat.f k l0 = some r),
    Calls Try.prog 12 #[.slice A0 l0.length c0] w fun e w' => ∃ v0_ : Value, e = .returned (v0_) ∧ Kd.R k36 36 w' w.heap.size (fun _ => True) v0_ r ∧ Below w.heap.size w w' := by
  induction k using Nat.strongRecOn with
  | _ k ih =>
  intro A0 c0 l0 r w hr0 hc0 h
  cases k with
  | zero => exact absurd h (by simp [list_Flat.f])
  | succ k =>
  simp only [list_Flat.f] at h
  have hu39 := Try.underlying39
  have hu36 := Try.underlying36
  have HR0 := Aside0.mk hr0
  have HC0 := Aside0.mk hc0
  clear hr0 hc0
  have HB := Aside0.mk (Below.refl w.heap.size w)
  have H : (list_Flat.l0 k ([] : List (S36)) l0 (l0.length : Int) 0) = some r := h
  clear h
  have H' := Aside0.mk H
  clear H
  go_enter Try.func12, Try.ntmps12
  go_wp2
  go_loopg [3, 8] k (fun kq v3 v8 w' => ∃ (x3_1 : List (S36)) (x8_1 : Int), v8 = .int .i64 x8_1 ∧ Aside0 (list_Flat.l0 kq x3_1 l0 (l0.length : Int) x8_1 = some r) ∧ Aside0 (kq ≤ k) ∧ Aside0 (Kd.R k36 36 w' w.heap.size (fun _ => True) v3 x3_1) ∧ Aside0 (Below w.heap.size w w'))
  case atStart => exact ⟨(([] : List (S36))), (0), (by first | rfl | (simp; done) | (simp [*]; done)), H', ⟨Nat.le_refl _⟩, ⟨by first | exact Kd.R_nil _ _ _ _ _ | exact Kd.N_nil _ _ _ _ _ | exact Kd.V_nil _ _ _ _ _ | exact Kd.Q_nil _ _ _ _ _ | exact Kd.S_nil _ _ _ _ _⟩, ⟨by repeat (first | (with_reducible first | exact HB.out | apply below_alloc | apply pw_below_drewN | apply below_drew1) | exact HB.out)⟩⟩
  case round =>
    clear H'
    try clear c1
    obtain ⟨x3_1, x8_1, rfl, HA, HK1, HO_3, HB⟩ := hrel
    cases gk with
    | zero => exact absurd HA.out (by simp [list_Flat.l0])
    | succ k1 =>
      have H := HA.out
      clear HA
      simp only [list_Flat.l0] at H
      by_cases c2 : x8_1 < (l0.length : Int)
      · rw [if_pos c2] at H
        have c2b0 : decide (x8_1 < (l0.length : Int)) = true := decide_eq_true c2
        clear c2
        by_cases c3 : 0 ≤ x8_1
        · rw [if_pos c3] at H
          have c3b0 : decide (0 ≤ x8_1) = true := decide_eq_true c3
          clear c3
          by_cases c4 : x8_1 < (l0.length : Int)
          · rw [if_pos c4] at H
            have c4b0 : decide (x8_1 < (l0.length : Int)) = true := decide_eq_true c4
            clear c4
            have HC5 := Aside0.mk H
            clear H
            have p112 : 0 ≤ (x8_1 : Int) := of_decide_eq_true (by first | (with_reducible assumption) | assumption)
            have q112 : x8_1 < (l0.length : Int) := of_decide_eq_true (by first | (with_reducible assumption) | assumption)
            obtain ⟨ad112, A112_3, c112_3, e112, hx112_0, hx112_1, hx112_2, hx112_3, hl112_3, hi112_3⟩ := at_T39 HR0.out x8_1 p112 q112
            cases e112
            replace hx112_0 := (HB.out.cell (World.block_lt_of_cell? w _ hx112_0)).trans hx112_0
            replace hx112_1 := (HB.out.cell (World.block_lt_of_cell? w _ hx112_1)).trans hx112_1
            replace hx112_2 := (HB.out.cell (World.block_lt_of_cell? w _ hx112_2)).trans hx112_2
            replace hx112_3 := (HB.out.cell (World.block_lt_of_cell? w _ hx112_3)).trans hx112_3
            have HR112_3 := Aside0.mk hi112_3
            have HC112_3 := Aside0.mk hl112_3
            clear hi112_3 hl112_3
            replace p112 := eq_true p112
            replace q112 := eq_true q112
            go_upto_if 14 with (first | ((with_reducible refine gate_dst (N := 5) rfl ?_); refine box_event ?hg (N := 5) ?hd (cs := #[.int .i64 0, .int .i64 0, .string (⟨#[]⟩ : ByteArray), .slice none 0 0]) (t := 39) ?hr ?_; (case hd => rfl); (case hg => rfl); (case hr => first | (go_simp; done) | (go_simp; rfl)); intro gb113 hg w6 hbox hb; have n0_ := Aside0.mk (Kd.R_below (by (with_reducible repeat (first | apply Kd.R_alloc | apply Kd.R_drewN | apply Kd.R_drew)); exact HO_3.out) hb); have n1_ := Aside0.mk (below_step (by repeat (first | (with_reducible first | exact HB.out | apply below_alloc | apply pw_below_drewN | apply below_drew1) | exact HB.out)) hb); have n2_ := Aside0.mk (hbox); have n3_ := Aside0.mk ((by rw [hg]; exact (below_size (by repeat (first | (with_reducible first | exact HB.out | apply below_alloc | apply pw_below_drewN | apply below_drew1) | exact HB.out))) : w.heap.size ≤ gb113)); have n4_ := Aside0.mk ((by rw [hg]; exact (below_size (by repeat (first | (with_reducible first | exact HB.out | apply below_alloc | apply pw_below_drewN | apply below_drew1) | exact HB.out))) : w.heap.size ≤ gb113)); clear HO_3; clear HB; have HO_3 := n0_; have HB := n1_; have BK113 := n2_; have GW113 := n3_; have GE113 := n4_; clear n0_ n1_ n2_ n3_ n4_; clear hb hbox hg; have hcz7_0 : w6.cell? ⟨gb113, 0, none⟩ = some (.int .i64 0) := (blk_cell BK113.out 0).trans rfl; have hcz7_1 : w6.cell? ⟨gb113, 1, none⟩ = some (.int .i64 0) := (blk_cell BK113.out 1).trans rfl; have hcz7_2 : w6.cell? ⟨gb113, 2, none⟩ = some (.string (⟨#[]⟩ : ByteArray)) := (blk_cell BK113.out 2).trans rfl; have hcz7_3 : w6.cell? ⟨gb113, 3, none⟩ = some (.slice none 0 0) := (blk_cell BK113.out 3).trans rfl; have hfz7_0 := blk_frozen BK113.out 0; have hfz7_1 := blk_frozen BK113.out 1; have hfz7_2 := blk_frozen BK113.out 2; have hfz7_3 := blk_frozen BK113.out 3))
            (try simp only [Act.put, List.setIfInBounds_toArray, List.set_cons_zero, List.set_cons_succ])
            go_cut [14] (fun v14 wc => ∃ (kq : Nat) (x14_4 : Bool), v14 = .bool x14_4 ∧ Aside0 (list_Flat.j1 kq x3_1 l0 (l0.length : Int) x8_1 ((rd_T39 l0 x8_1).f0) x14_4 ((rd_T39 l0 x8_1).f0) ((rd_T39 l0 x8_1).f1) ((rd_T39 l0 x8_1).f2) ((rd_T39 l0 x8_1).f3) = some r) ∧ Aside0 (kq ≤ k1) ∧ Aside0 (Kd.R k36 36 wc w.heap.size (fun _ => True) u3 x3_1) ∧ Aside0 (wc.heap[gb113]? = some (.cells #[.int .i64 ((rd_T39 l0 x8_1).f0), .int .i64 ((rd_T39 l0 x8_1).f1), .string ((rd_T39 l0 x8_1).f2), (.slice A112_3 ((rd_T39 l0 x8_1).f3).length c112_3)] 39 (0, 0))) ∧ Aside0 (Below w.heap.size w wc))
            case first =>
              have H := HC5.out
              clear HC5
              by_cases c8 : ((rd_T39 l0 x8_1).f0) = 4
              · rw [if_pos c8] at H
                have c8b0 : (((rd_T39 l0 x8_1).f0) == 4) = true := beq_iff_eq.mpr c8
                have c8b1 : (((rd_T39 l0 x8_1).f0) != 4) = false := bne_eq_false_iff_eq.mpr c8
                clear c8
                (first | rw [c8b0] | (simp only [i64_w, i32_w]; rw [c8b0]) | skip)
                have H' := Aside0.mk H
                clear H
                go_wp2
                go_meet
                case rel => exact ⟨_, ((((rd_T39 l0 x8_1).f0) == 4)), (by first | rfl | (simp; done) | (simp [*]; done)), H', ⟨by have := HK1.out; first | omega | exact Nat.le_refl _⟩, ⟨by (with_reducible repeat (first | apply Kd.R_alloc | apply Kd.R_drewN | apply Kd.R_drew)); exact Kd.R_mono (Kd.R_far (p := ⟨gb113, 3, none⟩) (Kd.R_far (p := ⟨gb113, 2, none⟩) (Kd.R_far (p := ⟨gb113, 1, none⟩) (Kd.R_far (p := ⟨gb113, 0, none⟩) (Kd.R_types HO_3.out BK113.out (by decide)) (fun _ hk => hk.2) (.int .i64 ((rd_T39 l0 x8_1).f0))) (fun _ hk => hk.2) (.int .i64 ((rd_T39 l0 x8_1).f1))) (fun _ hk => hk.2) (.string ((rd_T39 l0 x8_1).f2))) (fun _ hk => hk.2) (.slice A112_3 ((rd_T39 l0 x8_1).f3).length c112_3)) (fun _ hk => trivial)⟩, ⟨by (with_reducible repeat (first | refine blk_drewN ?_ _ | refine blk_drew ?_ | refine blk_alloc ?_ _)); refine blk_put (cs := #[.int .i64 ((rd_T39 l0 x8_1).f0), .int .i64 ((rd_T39 l0 x8_1).f1), .string ((rd_T39 l0 x8_1).f2), .slice none 0 0]) ?_ 3 _ rfl; (with_reducible repeat (first | refine blk_drewN ?_ _ | refine blk_drew ?_ | refine blk_alloc ?_ _)); refine blk_put (cs := #[.int .i64 ((rd_T39 l0 x8_1).f0), .int .i64 ((rd_T39 l0 x8_1).f1), .string (⟨#[]⟩ : ByteArray), .slice none 0 0]) ?_ 2 _ rfl; (with_reducible repeat (first | refine blk_drewN ?_ _ | refine blk_drew ?_ | refine blk_alloc ?_ _)); refine blk_put (cs := #[.int .i64 ((rd_T39 l0 x8_1).f0), .int .i64 0, .string (⟨#[]⟩ : ByteArray), .slice none 0 0]) ?_ 1 _ rfl; (with_reducible repeat (first | refine blk_drewN ?_ _ | refine blk_drew ?_ | refine blk_alloc ?_ _)); refine blk_put (cs := #[.int .i64 0, .int .i64 0, .string (⟨#[]⟩ : ByteArray), .slice none 0 0]) ?_ 0 _ rfl; (with_reducible repeat (first | refine blk_drewN ?_ _ | refine blk_drew ?_ | refine blk_alloc ?_ _)); exact BK113.out⟩, ⟨by repeat (first | (with_reducible first | exact HB.out | apply below_alloc | apply pw_below_drewN | apply below_drew1 | refine below_set ?_ GE113.out) | exact HB.out)⟩⟩
              · rw [if_neg c8] at H
                have c8b0 : (((rd_T39 l0 x8_1).f0) == 4) = false := beq_eq_false_iff_ne.mpr c8
                have c8b1 : (((rd_T39 l0 x8_1).f0) != 4) = true := bne_iff_ne.mpr c8
                (first | rw [c8b0] | (simp only [i64_w, i32_w]; rw [c8b0]) | skip)
                have H' := Aside0.mk H
                clear H
                go_wp2
                go_meet
                case rel => exact ⟨_, ((((rd_T39 l0 x8_1).f0) == 3)), (by first | rfl | (simp; done) | (simp [*]; done)), H', ⟨by have := HK1.out; first | omega | exact Nat.le_refl _⟩, ⟨by (with_reducible repeat (first | apply Kd.R_alloc | apply Kd.R_drewN | apply Kd.R_drew)); exact Kd.R_mono (Kd.R_far (p := ⟨gb113, 3, none⟩) (Kd.R_far (p := ⟨gb113, 2, none⟩) (Kd.R_far (p := ⟨gb113, 1, none⟩) (Kd.R_far (p := ⟨gb113, 0, none⟩) (Kd.R_types HO_3.out BK113.out (by decide)) (fun _ hk => hk.2) (.int .i64 ((rd_T39 l0 x8_1).f0))) (fun _ hk => hk.2) (.int .i64 ((rd_T39 l0 x8_1).f1))) (fun _ hk => hk.2) (.string ((rd_T39 l0 x8_1).f2))) (fun _ hk => hk.2) (.slice A112_3 ((rd_T39 l0 x8_1).f3).length c112_3)) (fun _ hk => trivial)⟩, ⟨by (with_reducible repeat (first | refine blk_drewN ?_ _ | refine blk_drew ?_ | refine blk_alloc ?_ _)); refine blk_put (cs := #[.int .i64 ((rd_T39 l0 x8_1).f0), .int .i64 ((rd_T39 l0 x8_1).f1), .string ((rd_T39 l0 x8_1).f2), .slice none 0 0]) ?_ 3 _ rfl; (with_reducible repeat (first | refine blk_drewN ?_ _ | refine blk_drew ?_ | refine blk_alloc ?_ _)); refine blk_put (cs := #[.int .i64 ((rd_T39 l0 x8_1).f0), .int .i64 ((rd_T39 l0 x8_1).f1), .string (⟨#[]⟩ : ByteArray), .slice none 0 0]) ?_ 2 _ rfl; (with_reducible repeat (first | refine blk_drewN ?_ _ | refine blk_drew ?_ | refine blk_alloc ?_ _)); refine blk_put (cs := #[.int .i64 ((rd_T39 l0 x8_1).f0), .int .i64 0, .string (⟨#[]⟩ : ByteArray), .slice none 0 0]) ?_ 1 _ rfl; (with_reducible repeat (first | refine blk_drewN ?_ _ | refine blk_drew ?_ | refine blk_alloc ?_ _)); refine blk_put (cs := #[.int .i64 0, .int .i64 0, .string (⟨#[]⟩ : ByteArray), .slice none 0 0]) ?_ 0 _ rfl; (with_reducible repeat (first | refine blk_drewN ?_ _ | refine blk_drew ?_ | refine blk_alloc ?_ _)); exact BK113.out⟩, ⟨by repeat (first | (with_reducible first | exact HB.out | apply below_alloc | apply pw_below_drewN | apply below_drew1 | refine below_set ?_ GE113.out) | exact HB.out)⟩⟩
            case rest =>
              clear HC5
              try clear c1
              try clear p1
              try clear q1
              try clear hx1
              try clear c2
              try clear c2b0
              try clear p2
              try clear c3
              try clear c3b0
              try clear c4
              try clear c4b0
              try clear c8
              try clear c8b0
              try clear c8b1
              try clear hcz7_0
              try clear hcz7_1
              try clear hcz7_2
              try clear hcz7_3
              try clear hfz7_0
              try clear hfz7_1
              try clear hfz7_2
              try clear hfz7_3
              try clear hx112_0
              try clear hx112_1
              try clear hx112_2
              try clear hx112_3
              try clear p112
              try clear q112
              obtain ⟨kq, x14_4, rfl, HA, HJ4, HO_3, BK113, HB⟩ := hcut
              cases kq with
              | zero => exact absurd HA.out (by simp [list_Flat.j1])
              | succ kj4 =>
                have H := HA.out
                clear HA
                simp only [list_Flat.j1] at H
                by_cases c9 : x14_4 = true
                · subst c9
                  have H1 : (if x3_1.length < 4398046511104 then (list_Flat.l0 kj4 (x3_1 ++ [(⟨((rd_T39 l0 x8_1).f0), ((rd_T39 l0 x8_1).f1), ((rd_T39 l0 x8_1).f2)⟩ : S36)]) l0 (l0.length : Int) (wrap64 (x8_1 + 1))) else (none)) = some r := by rw [if_pos rfl] at H; exact H
                  clear H
                  have H := H1
                  clear H1
                  by_cases c10 : x3_1.length < 4398046511104
                  · rw [if_pos c10] at H
                    have LMc10 := Aside0.mk c10
                    clear c10
                    obtain ⟨y114, hy114⟩ : ∃ y_ : List (S36), y_ = (x3_1 ++ [(⟨((rd_T39 l0 x8_1).f0), ((rd_T39 l0 x8_1).f1), ((rd_T39 l0 x8_1).f2)⟩ : S36)]) := ⟨_, rfl⟩
                    replace H : (list_Flat.l0 kj4 y114 l0 (l0.length : Int) (wrap64 (x8_1 + 1))) = some r := by first | (rw [hy114]; with_reducible exact H) | (have H2_ := (Option.bind_some _ _).symm.trans H; rw [hy114]; with_reducible exact H2_) | (have H2_ := (Option.bind_some _ _).symm.trans H; with_reducible exact H2_) | with_reducible exact H | (rw [hy114]; exact H) | exact H
                    have Ny114 := Aside0.mk hy114
                    clear hy114
                    have H' := Aside0.mk H
                    clear H
                    have hcz11_0 : wc.cell? ⟨gb113, 0, none⟩ = some (.int .i64 ((rd_T39 l0 x8_1).f0)) := (blk_cell BK113.out 0).trans rfl
                    have hcz11_1 : wc.cell? ⟨gb113, 1, none⟩ = some (.int .i64 ((rd_T39 l0 x8_1).f1)) := (blk_cell BK113.out 1).trans rfl
                    have hcz11_2 : wc.cell? ⟨gb113, 2, none⟩ = some (.string ((rd_T39 l0 x8_1).f2)) := (blk_cell BK113.out 2).trans rfl
                    have hcz11_3 : wc.cell? ⟨gb113, 3, none⟩ = some (.slice A112_3 ((rd_T39 l0 x8_1).f3).length c112_3) := (blk_cell BK113.out 3).trans rfl
                    have hfz11_0 := blk_frozen BK113.out 0
                    have hfz11_1 := blk_frozen BK113.out 1
                    have hfz11_2 := blk_frozen BK113.out 2
                    have hfz11_3 := blk_frozen BK113.out 3
                    go_wp2_with (first | ((with_reducible refine gate_builtin (b := .append) (xs := #[.tmp 17, .tmp 25]) rfl ?_); at_builtin; refine Kd.R_append k36 (w0 := w) w.heap.size rfl (.tmp 17) (.tmp 25) 22 36 (.agg #[(.int .i64 0), (.int .i64 0), (.string ⟨#[]⟩)]) 32 rfl Try.underlying22 info36 rfl (by decide) (by omega) u3 x3_1 (⟨((rd_T39 l0 x8_1).f0), ((rd_T39 l0 x8_1).f1), ((rd_T39 l0 x8_1).f2)⟩ : S36) [.int .i64 ((rd_T39 l0 x8_1).f0), .int .i64 ((rd_T39 l0 x8_1).f1), .string ((rd_T39 l0 x8_1).f2)] (fun _ => True) (fun _ => False) rfl rfl ?aP (fun _ hk => hk.elim) ?aF ?aO ?aB ?aS ?aL ?_; (case aP => exact k36_mkM _ _ _ (⟨((rd_T39 l0 x8_1).f0), ((rd_T39 l0 x8_1).f1), ((rd_T39 l0 x8_1).f2)⟩ : S36)); (case aB => exact (by repeat (first | (with_reducible first | exact HB.out | apply below_alloc | apply pw_below_drewN | apply below_drew1 | refine below_set ?_ GE113.out) | exact HB.out))); (case aF => exact (fun _ _ => trivial)); (case aO => exact (by (with_reducible repeat (first | apply Kd.R_alloc | apply Kd.R_drewN | apply Kd.R_drew)); exact HO_3.out)); (case aS => exact (below_size (by repeat (first | (with_reducible first | exact HB.out | apply below_alloc | apply pw_below_drewN | apply below_drew1 | refine below_set ?_ GE113.out) | exact HB.out)))); (case aL => have := LMc10.out; omega); intro v115 w12 ho hb hg hat; rw [← Ny114.out] at ho; have n0_ := Aside0.mk (blk_grown (g := gb113) (o := .cells #[.int .i64 ((rd_T39 l0 x8_1).f0), .int .i64 ((rd_T39 l0 x8_1).f1), .string ((rd_T39 l0 x8_1).f2), .slice A112_3 ((rd_T39 l0 x8_1).f3).length c112_3] 39 (0, 0)) (by (with_reducible repeat (first | refine blk_drewN ?_ _ | refine blk_drew ?_ | refine blk_alloc ?_ _)); exact BK113.out) hg (Kd.R_ne HO_3.out BK113.out (by decide))); have n1_ := Aside0.mk (hb); have n2_ := Aside0.mk (ho); clear BK113; clear HB; clear HO_3; have BK113 := n0_; have HB := n1_; have HO116 := n2_; clear n0_ n1_ n2_; clear ho hb hg hat))
                    go_roundg kj4
                    case measure => have := HK1.out; have := HJ4.out; omega
                    case rel => exact ⟨(y114), (wrap64 (x8_1 + 1)), (by first | rfl | (simp; done) | (simp [*]; done)), H', ⟨by have := HK1.out; have := HJ4.out; omega⟩, ⟨by (with_reducible repeat (first | apply Kd.R_alloc | apply Kd.R_drewN | apply Kd.R_drew)); exact HO116.out⟩, ⟨by repeat (first | (with_reducible first | exact HB.out | apply below_alloc | apply pw_below_drewN | apply below_drew1 | refine below_set ?_ GE113.out) | exact HB.out)⟩⟩
                  · rw [if_neg c10] at H
                    exact absurd H (by simp)
                · replace c9 := Bool.eq_false_iff.mpr c9
                  subst c9
                  have H1 : (if ((rd_T39 l0 x8_1).f0) = 1 then (if x3_1.length < 4398046511104 then ((some (x3_1 ++ [(⟨1, ((rd_T39 l0 x8_1).f1), (⟨#[]⟩ : ByteArray)⟩ : S36)] : List (S36))).bind fun y117 => ((list_Flat.f kj4 ((rd_T39 l0 x8_1).f3)).bind fun t120 => (if y117.length + t120.length < 4398046511104 then ((some (y117 ++ t120 : List (S36))).bind fun y123 => (if y123.length < 4398046511104 then (list_Flat.l0 kj4 (y123 ++ [(⟨2, ((rd_T39 l0 x8_1).f1), (⟨#[]⟩ : ByteArray)⟩ : S36)]) l0 (l0.length : Int) (wrap64 (x8_1 + 1))) else (none))) else (none)))) else (none)) else (list_Flat.l0 kj4 x3_1 l0 (l0.length : Int) (wrap64 (x8_1 + 1)))) = some r := by rw [if_neg (show ¬ (false = true) by decide)] at H; exact H
                  clear H
                  have H := H1
                  clear H1
                  by_cases c13 : ((rd_T39 l0 x8_1).f0) = 1
                  · rw [if_pos c13] at H
                    have c13b0 : (((rd_T39 l0 x8_1).f0) == 1) = true := beq_iff_eq.mpr c13
                    have c13b1 : (((rd_T39 l0 x8_1).f0) != 1) = false := bne_eq_false_iff_eq.mpr c13
                    clear c13
                    by_cases c14 : x3_1.length < 4398046511104
                    · rw [if_pos c14] at H
                      have LMc14 := Aside0.mk c14
                      clear c14
                      obtain ⟨y117, hy117⟩ : ∃ y_ : List (S36), y_ = (x3_1 ++ [(⟨1, ((rd_T39 l0 x8_1).f1), (⟨#[]⟩ : ByteArray)⟩ : S36)]) := ⟨_, rfl⟩
                      replace H : ((list_Flat.f kj4 ((rd_T39 l0 x8_1).f3)).bind fun t120 => (if y117.length + t120.length < 4398046511104 then ((some (y117 ++ t120 : List (S36))).bind fun y123 => (if y123.length < 4398046511104 then (list_Flat.l0 kj4 (y123 ++ [(⟨2, ((rd_T39 l0 x8_1).f1), (⟨#[]⟩ : ByteArray)⟩ : S36)]) l0 (l0.length : Int) (wrap64 (x8_1 + 1))) else (none))) else (none))) = some r := by first | (rw [hy117]; with_reducible exact H) | (have H2_ := (Option.bind_some _ _).symm.trans H; rw [hy117]; with_reducible exact H2_) | (have H2_ := (Option.bind_some _ _).symm.trans H; with_reducible exact H2_) | with_reducible exact H | (rw [hy117]; exact H) | exact H
                      have Ny117 := Aside0.mk hy117
                      clear hy117
                      replace H := Option.bind_eq_some_iff.mp H
                      obtain ⟨t120, A150, H⟩ := H
                      replace H : (if y117.length + t120.length < 4398046511104 then ((some (y117 ++ t120 : List (S36))).bind fun y123 => (if y123.length < 4398046511104 then (list_Flat.l0 kj4 (y123 ++ [(⟨2, ((rd_T39 l0 x8_1).f1), (⟨#[]⟩ : ByteArray)⟩ : S36)]) l0 (l0.length : Int) (wrap64 (x8_1 + 1))) else (none))) else (none)) = some r := H
                      have A15 := Aside0.mk A150
                      clear A150
                      by_cases c16 : y117.length + t120.length < 4398046511104
                      · rw [if_pos c16] at H
                        have LMc16 := Aside0.mk c16
                        clear c16
                        obtain ⟨y123, hy123⟩ : ∃ y_ : List (S36), y_ = (y117 ++ t120) := ⟨_, rfl⟩
                        replace H : (if y123.length < 4398046511104 then (list_Flat.l0 kj4 (y123 ++ [(⟨2, ((rd_T39 l0 x8_1).f1), (⟨#[]⟩ : ByteArray)⟩ : S36)]) l0 (l0.length : Int) (wrap64 (x8_1 + 1))) else (none)) = some r := by first | (rw [hy123]; with_reducible exact H) | (have H2_ := (Option.bind_some _ _).symm.trans H; rw [hy123]; with_reducible exact H2_) | (have H2_ := (Option.bind_some _ _).symm.trans H; with_reducible exact H2_) | with_reducible exact H | (rw [hy123]; exact H) | exact H
                        have Ny123 := Aside0.mk hy123
                        clear hy123
                        by_cases c17 : y123.length < 4398046511104
                        · rw [if_pos c17] at H
                          have LMc17 := Aside0.mk c17
                          clear c17
                          obtain ⟨y126, hy126⟩ : ∃ y_ : List (S36), y_ = (y123 ++ [(⟨2, ((rd_T39 l0 x8_1).f1), (⟨#[]⟩ : ByteArray)⟩ : S36)]) := ⟨_, rfl⟩
                          replace H : (list_Flat.l0 kj4 y126 l0 (l0.length : Int) (wrap64 (x8_1 + 1))) = some r := by first | (rw [hy126]; with_reducible exact H) | (have H2_ := (Option.bind_some _ _).symm.trans H; rw [hy126]; with_reducible exact H2_) | (have H2_ := (Option.bind_some _ _).symm.trans H; with_reducible exact H2_) | with_reducible exact H | (rw [hy126]; exact H) | exact H
                          have Ny126 := Aside0.mk hy126
                          clear hy126
                          have H' := Aside0.mk H
                          clear H
                          have hcz18_0 : wc.cell? ⟨gb113, 0, none⟩ = some (.int .i64 ((rd_T39 l0 x8_1).f0)) := (blk_cell BK113.out 0).trans rfl
                          have hcz18_1 : wc.cell? ⟨gb113, 1, none⟩ = some (.int .i64 ((rd_T39 l0 x8_1).f1)) := (blk_cell BK113.out 1).trans rfl
                          have hcz18_2 : wc.cell? ⟨gb113, 2, none⟩ = some (.string ((rd_T39 l0 x8_1).f2)) := (blk_cell BK113.out 2).trans rfl
                          have hcz18_3 : wc.cell? ⟨gb113, 3, none⟩ = some (.slice A112_3 ((rd_T39 l0 x8_1).f3).length c112_3) := (blk_cell BK113.out 3).trans rfl
                          have hfz18_0 := blk_frozen BK113.out 0
                          have hfz18_1 := blk_frozen BK113.out 1
                          have hfz18_2 := blk_frozen BK113.out 2
                          have hfz18_3 := blk_frozen BK113.out 3
                          go_wp2_with (first | ((with_reducible refine gate_builtin (b := .append) (xs := #[.tmp 29, .tmp 33]) rfl ?_); at_builtin; refine Kd.R_append k36 (w0 := w) w.heap.size rfl (.tmp 29) (.tmp 33) 22 36 (.agg #[(.int .i64 0), (.int .i64 0), (.string ⟨#[]⟩)]) 32 rfl Try.underlying22 info36 rfl (by decide) (by omega) u3 x3_1 (⟨1, ((rd_T39 l0 x8_1).f1), (⟨#[]⟩ : ByteArray)⟩ : S36) [.int .i64 1, .int .i64 ((rd_T39 l0 x8_1).f1), .string (⟨#[]⟩ : ByteArray)] (fun _ => True) (fun _ => False) rfl rfl ?aP (fun _ hk => hk.elim) ?aF ?aO ?aB ?aS ?aL ?_; (case aP => exact k36_mkM _ _ _ (⟨1, ((rd_T39 l0 x8_1).f1), (⟨#[]⟩ : ByteArray)⟩ : S36)); (case aB => exact (by repeat (first | (with_reducible first | exact HB.out | apply below_alloc | apply pw_below_drewN | apply below_drew1 | refine below_set ?_ GE113.out) | exact HB.out))); (case aF => exact (fun _ _ => trivial)); (case aO => exact (by (with_reducible repeat (first | apply Kd.R_alloc | apply Kd.R_drewN | apply Kd.R_drew)); exact HO_3.out)); (case aS => exact (below_size (by repeat (first | (with_reducible first | exact HB.out | apply below_alloc | apply pw_below_drewN | apply below_drew1 | refine below_set ?_ GE113.out) | exact HB.out)))); (case aL => have := LMc14.out; omega); intro v118 w19 ho hb hg hat; rw [← Ny117.out] at ho; have n0_ := Aside0.mk (blk_grown (g := gb113) (o := .cells #[.int .i64 ((rd_T39 l0 x8_1).f0), .int .i64 ((rd_T39 l0 x8_1).f1), .string ((rd_T39 l0 x8_1).f2), .slice A112_3 ((rd_T39 l0 x8_1).f3).length c112_3] 39 (0, 0)) (by (with_reducible repeat (first | refine blk_drewN ?_ _ | refine blk_drew ?_ | refine blk_alloc ?_ _)); exact BK113.out) hg (Kd.R_ne HO_3.out BK113.out (by decide))); have n1_ := Aside0.mk (hb); have n2_ := Aside0.mk (ho); clear BK113; clear HB; clear HO_3; have BK113 := n0_; have HB := n1_; have HO119 := n2_; clear n0_ n1_ n2_; clear ho hb hg hat; have hcz20_0 : w19.cell? ⟨gb113, 0, none⟩ = some (.int .i64 ((rd_T39 l0 x8_1).f0)) := (blk_cell BK113.out 0).trans rfl; have hcz20_1 : w19.cell? ⟨gb113, 1, none⟩ = some (.int .i64 ((rd_T39 l0 x8_1).f1)) := (blk_cell BK113.out 1).trans rfl; have hcz20_2 : w19.cell? ⟨gb113, 2, none⟩ = some (.string ((rd_T39 l0 x8_1).f2)) := (blk_cell BK113.out 2).trans rfl; have hcz20_3 : w19.cell? ⟨gb113, 3, none⟩ = some (.slice A112_3 ((rd_T39 l0 x8_1).f3).length c112_3) := (blk_cell BK113.out 3).trans rfl; have hfz20_0 := blk_frozen BK113.out 0; have hfz20_1 := blk_frozen BK113.out 1; have hfz20_2 := blk_frozen BK113.out 2; have hfz20_3 := blk_frozen BK113.out 3) | ((with_reducible refine gate_callee (f := 12) rfl ?_); refine goesL_ (some 38) rfl rfl Try.func12 (by kernel_rfl) rfl #[.slice A112_3 ((rd_T39 l0 x8_1).f3).length c112_3] rfl (by (try simp only [List.map_toArray, List.map_cons, List.map_nil]); first | done | rfl | (simp only [List.length_drop, List.length_take]; rfl)) ?_; (with_reducible refine (ih kj4 (by have := HK1.out; have := HJ4.out; omega) _ _ ((rd_T39 l0 x8_1).f3) t120 _ ?side1 ?side2 A15.out).mono ?_); (case side1 => repeat (first | exact (Kd.C_below HR112_3.out HB.out) | (with_reducible refine Kd.C_alloc ?_ _) | (with_reducible refine Kd.C_drewN ?_ _) | (with_reducible refine Kd.C_drew ?_))); (case side2 => exact HC112_3.out); rintro e w21 ⟨v121, rfl, ho0, hb⟩; refine ⟨_, rfl, ?_⟩; have n0_ := Aside0.mk (Kd.R_elder' (by (with_reducible repeat (first | apply Kd.R_alloc | apply Kd.R_drewN | apply Kd.R_drew)); exact HO119.out) (Kd.R_base ho0) hb); have n1_ := Aside0.mk (Kd.R_lower (Kd.R_new' ho0 (Kd.R_lt (by (with_reducible repeat (first | apply Kd.R_alloc | apply Kd.R_drewN | apply Kd.R_drew)); exact HO119.out))) (below_size (by repeat (first | (with_reducible first | exact HB.out | apply below_alloc | apply pw_below_drewN | apply below_drew1 | refine below_set ?_ GE113.out) | exact HB.out)))); have n2_ := Aside0.mk (blk_below (g := gb113) (o := .cells #[.int .i64 ((rd_T39 l0 x8_1).f0), .int .i64 ((rd_T39 l0 x8_1).f1), .string ((rd_T39 l0 x8_1).f2), .slice A112_3 ((rd_T39 l0 x8_1).f3).length c112_3] 39 (0, 0)) (by (with_reducible repeat (first | refine blk_drewN ?_ _ | refine blk_drew ?_ | refine blk_alloc ?_ _)); exact BK113.out) hb); have n3_ := Aside0.mk (below_step (by repeat (first | (with_reducible first | exact HB.out | apply below_alloc | apply pw_below_drewN | apply below_drew1 | refine below_set ?_ GE113.out) | exact HB.out)) hb); clear HO119; clear BK113; clear HB; have HO119 := n0_; have HO122 := n1_; have BK113 := n2_; have HB := n3_; clear n0_ n1_ n2_ n3_; (try clear hb); (try clear hb2); (try clear hk); (try clear hi); (try clear ho0); obtain ⟨Ao23, co23, eo23⟩ := Kd.R_slice HO122.out; subst eo23) | ((with_reducible refine gate_builtin (b := .append) (xs := #[.tmp 35, .tmp 38]) rfl ?_); at_builtin; refine Kd.R_append_rows k36 (w0 := w) w.heap.size rfl (.tmp 35) (.tmp 38) 22 36 (.agg #[(.int .i64 0), (.int .i64 0), (.string ⟨#[]⟩)]) 32 rfl Try.underlying22 info36 rfl (by decide) (by omega) v118 y117 t120 _ _ _ (fun k_ => some k_ ≠ (.slice Ao23 t120.length co23 : Value).ownBlock) (fun _ => False) rfl rfl ?aO ?aR (fun _ _ h => h) (fun _ h => h.elim) ?aF ?aB ?aS ?aL ?_; (case aR => repeat (first | exact (Kd.R_reads' HO122.out).2.2 | (with_reducible refine Kd.C_alloc ?_ _) | (with_reducible refine Kd.C_drewN ?_ _) | (with_reducible refine Kd.C_drew ?_))); (case aB => exact (by repeat (first | (with_reducible first | exact HB.out | apply below_alloc | apply pw_below_drewN | apply below_drew1 | refine below_set ?_ GE113.out) | exact HB.out))); (case aF => exact (fun k_ hk => Kd.fresh' (Kd.R_lt (by (with_reducible repeat (first | apply Kd.R_alloc | apply Kd.R_drewN | apply Kd.R_drew)); exact HO122.out)) k_ hk)); (case aO => exact (by (with_reducible repeat (first | apply Kd.R_alloc | apply Kd.R_drewN | apply Kd.R_drew)); exact Kd.R_mono HO119.out (fun _ hk => hk.2))); (case aS => exact (below_size (by repeat (first | (with_reducible first | exact HB.out | apply below_alloc | apply pw_below_drewN | apply below_drew1 | refine below_set ?_ GE113.out) | exact HB.out)))); (case aL => have := LMc16.out; omega); intro v124 w22 ho hb hg hat; rw [← Ny123.out] at ho; have n0_ := Aside0.mk (blk_grown (g := gb113) (o := .cells #[.int .i64 ((rd_T39 l0 x8_1).f0), .int .i64 ((rd_T39 l0 x8_1).f1), .string ((rd_T39 l0 x8_1).f2), .slice A112_3 ((rd_T39 l0 x8_1).f3).length c112_3] 39 (0, 0)) (by (with_reducible repeat (first | refine blk_drewN ?_ _ | refine blk_drew ?_ | refine blk_alloc ?_ _)); exact BK113.out) hg (Kd.R_ne HO119.out BK113.out (by decide))); have n1_ := Aside0.mk (Kd.R_after (ok := (fun _ => True)) (by (with_reducible repeat (first | apply Kd.R_alloc | apply Kd.R_drewN | apply Kd.R_drew)); exact HO122.out) hg hat); have n2_ := Aside0.mk (hb); have n3_ := Aside0.mk (ho); clear BK113; clear HO122; clear HB; clear HO119; have BK113 := n0_; have HO122 := n1_; have HB := n2_; have HO125 := n3_; clear n0_ n1_ n2_ n3_; clear ho hb hg hat; have hcz24_0 : w22.cell? ⟨gb113, 0, none⟩ = some (.int .i64 ((rd_T39 l0 x8_1).f0)) := (blk_cell BK113.out 0).trans rfl; have hcz24_1 : w22.cell? ⟨gb113, 1, none⟩ = some (.int .i64 ((rd_T39 l0 x8_1).f1)) := (blk_cell BK113.out 1).trans rfl; have hcz24_2 : w22.cell? ⟨gb113, 2, none⟩ = some (.string ((rd_T39 l0 x8_1).f2)) := (blk_cell BK113.out 2).trans rfl; have hcz24_3 : w22.cell? ⟨gb113, 3, none⟩ = some (.slice A112_3 ((rd_T39 l0 x8_1).f3).length c112_3) := (blk_cell BK113.out 3).trans rfl; have hfz24_0 := blk_frozen BK113.out 0; have hfz24_1 := blk_frozen BK113.out 1; have hfz24_2 := blk_frozen BK113.out 2; have hfz24_3 := blk_frozen BK113.out 3) | ((with_reducible refine gate_builtin (b := .append) (xs := #[.tmp 40, .tmp 44]) rfl ?_); at_builtin; refine Kd.R_append k36 (w0 := w) w.heap.size rfl (.tmp 40) (.tmp 44) 22 36 (.agg #[(.int .i64 0), (.int .i64 0), (.string ⟨#[]⟩)]) 32 rfl Try.underlying22 info36 rfl (by decide) (by omega) v124 y123 (⟨2, ((rd_T39 l0 x8_1).f1), (⟨#[]⟩ : ByteArray)⟩ : S36) [.int .i64 2, .int .i64 ((rd_T39 l0 x8_1).f1), .string (⟨#[]⟩ : ByteArray)] (fun k_ => some k_ ≠ (.slice Ao23 t120.length co23 : Value).ownBlock) (fun _ => False) rfl rfl ?aP (fun _ hk => hk.elim) ?aF ?aO ?aB ?aS ?aL ?_; (case aP => exact k36_mkM _ _ _ (⟨2, ((rd_T39 l0 x8_1).f1), (⟨#[]⟩ : ByteArray)⟩ : S36)); (case aB => exact (by repeat (first | (with_reducible first | exact HB.out | apply below_alloc | apply pw_below_drewN | apply below_drew1 | refine below_set ?_ GE113.out) | exact HB.out))); (case aF => exact (fun k_ hk => Kd.fresh' (Kd.R_lt (by (with_reducible repeat (first | apply Kd.R_alloc | apply Kd.R_drewN | apply Kd.R_drew)); exact HO122.out)) k_ hk)); (case aO => exact (by (with_reducible repeat (first | apply Kd.R_alloc | apply Kd.R_drewN | apply Kd.R_drew)); exact HO125.out)); (case aS => exact (below_size (by repeat (first | (with_reducible first | exact HB.out | apply below_alloc | apply pw_below_drewN | apply below_drew1 | refine below_set ?_ GE113.out) | exact HB.out)))); (case aL => have := LMc17.out; omega); intro v127 w25 ho hb hg hat; rw [← Ny126.out] at ho; have n0_ := Aside0.mk (blk_grown (g := gb113) (o := .cells #[.int .i64 ((rd_T39 l0 x8_1).f0), .int .i64 ((rd_T39 l0 x8_1).f1), .string ((rd_T39 l0 x8_1).f2), .slice A112_3 ((rd_T39 l0 x8_1).f3).length c112_3] 39 (0, 0)) (by (with_reducible repeat (first | refine blk_drewN ?_ _ | refine blk_drew ?_ | refine blk_alloc ?_ _)); exact BK113.out) hg (Kd.R_ne HO125.out BK113.out (by decide))); have n1_ := Aside0.mk (Kd.R_after (ok := (fun _ => True)) (by (with_reducible repeat (first | apply Kd.R_alloc | apply Kd.R_drewN | apply Kd.R_drew)); exact HO122.out) hg hat); have n2_ := Aside0.mk (hb); have n3_ := Aside0.mk (ho); clear BK113; clear HO122; clear HB; clear HO125; have BK113 := n0_; have HO122 := n1_; have HB := n2_; have HO128 := n3_; clear n0_ n1_ n2_ n3_; clear ho hb hg hat))
                          go_roundg kj4
                          case measure => have := HK1.out; have := HJ4.out; omega
                          case rel => exact ⟨(y126), (wrap64 (x8_1 + 1)), (by first | rfl | (simp; done) | (simp [*]; done)), H', ⟨by have := HK1.out; have := HJ4.out; omega⟩, ⟨by (with_reducible repeat (first | apply Kd.R_alloc | apply Kd.R_drewN | apply Kd.R_drew)); exact Kd.R_mono HO128.out (fun _ hk => trivial)⟩, ⟨by repeat (first | (with_reducible first | exact HB.out | apply below_alloc | apply pw_below_drewN | apply below_drew1 | refine below_set ?_ GE113.out) | exact HB.out)⟩⟩
                        · rw [if_neg c17] at H
                          exact absurd H (by simp)
                      · rw [if_neg c16] at H
                        exact absurd H (by simp)
                    · rw [if_neg c14] at H
                      exact absurd H (by simp)
                  · rw [if_neg c13] at H
                    have c13b0 : (((rd_T39 l0 x8_1).f0) == 1) = false := beq_eq_false_iff_ne.mpr c13
                    have c13b1 : (((rd_T39 l0 x8_1).f0) != 1) = true := bne_iff_ne.mpr c13
                    have H' := Aside0.mk H
                    clear H
                    go_wp2
                    go_roundg kj4
                    case measure => have := HK1.out; have := HJ4.out; omega
                    case rel => exact ⟨(x3_1), (wrap64 (x8_1 + 1)), (by first | rfl | (simp; done) | (simp [*]; done)), H', ⟨by have := HK1.out; have := HJ4.out; omega⟩, ⟨by (with_reducible repeat (first | apply Kd.R_alloc | apply Kd.R_drewN | apply Kd.R_drew)); exact HO_3.out⟩, ⟨by repeat (first | (with_reducible first | exact HB.out | apply below_alloc | apply pw_below_drewN | apply below_drew1 | refine below_set ?_ GE113.out) | exact HB.out)⟩⟩
          · rw [if_neg c4] at H
            exact absurd H (by simp)
        · rw [if_neg c3] at H
          exact absurd H (by simp)
      · rw [if_neg c2] at H
        have c2b0 : decide (x8_1 < (l0.length : Int)) = false := decide_eq_false c2
        clear c2
        obtain rfl := Option.some.inj H
        go_wp2
        go_ret
        exact ⟨_, by first | rfl | (simp [errW_none, errW_some] <;> rfl) | (simp [*, errW_none, errW_some] <;> rfl), by (with_reducible repeat (first | apply Kd.R_alloc | apply Kd.R_drewN | apply Kd.R_drew)); exact HO_3.out, by repeat (first | (with_reducible first | exact HB.out | apply below_alloc | apply pw_below_drewN | apply below_drew1) | exact HB.out)⟩

end Go.Proofs.Ytiicmihecdeebaa.RListFlats
