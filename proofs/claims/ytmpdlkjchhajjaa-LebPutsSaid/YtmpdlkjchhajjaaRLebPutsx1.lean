-- Made by the program wip/patchprint.py (this session's own, over the kit's print)
import Derived.Test.YtmpdlkjchhajjaaRLebPutsx0
namespace Go.Proofs.Ytmpdlkjchhajjaa.RLebPuts
open Go.RowKit Go.Proofs.YtmpdlkjchhajjaaW.PrintWords Go.Proofs.YtmpdlkjchhajjaaW.PrintLast Go.Proofs.YtmpdlkjchhajjaaW.PrintMore
attribute [local go_sem] max2_int min2_int max_two min_two max_three min_three max_four min_four   -- for this text's walks alone
set_option linter.unusedVariables false
set_option linter.unusedSimpArgs false
set_option linter.unnecessarySimpa false

attribute [local go_sem] err_eql err_neq err_nil_eql err_nil_neq
/-! ### leb_may: function 17 -/
def leb_may.f (l0 : List Int) (a1 : Int) (a2 : Int) : Option (Bool) := if a2 ≥ 1 then (if a2 ≤ 64 then (if a1 ≥ 0 then (some (decide (a1 ≤ (l0.length : Int)))) else (some false)) else (some false)) else (some false)
set_option maxHeartbeats 8000000 in
set_option maxRecDepth 100000 in
theorem leb_may.calls (A0 : Option Addr) (c0 : Nat) (l0 : List Int) (a1 : Int) (a2 : Int) (r : Bool) (w : World) (hr0 : Kd.C (Kd.int .u8) w A0 l0.length l0) (hc0 : l0.length ≤ c0) (h : leb_may.f l0 a1 a2 = some r) :
    Calls Try.prog 17 #[.slice A0 l0.length c0, .int .i64 a1, .int .i64 a2] w fun e w' => e = .returned (.bool r) ∧ Drawn0 w w' := by
  have HR0 := Aside0.mk hr0
  have HC0 := Aside0.mk hc0
  clear hr0 hc0
  have H : (if a2 ≥ 1 then (if a2 ≤ 64 then (if a1 ≥ 0 then (some (decide (a1 ≤ (l0.length : Int)))) else (some false)) else (some false)) else (some false)) = some r := h
  clear h
  by_cases c4 : a2 ≥ 1
  · rw [if_pos c4] at H
    have c4b0 : decide (1 ≤ a2) = true := decide_eq_true c4
    clear c4
    by_cases c5 : a2 ≤ 64
    · rw [if_pos c5] at H
      have c5b0 : decide (a2 ≤ 64) = true := decide_eq_true c5
      clear c5
      by_cases c6 : a1 ≥ 0
      · rw [if_pos c6] at H
        have c6b0 : decide (0 ≤ a1) = true := decide_eq_true c6
        clear c6
        obtain rfl := Option.some.inj H
        go_enter Try.func17, Try.ntmps17
        go_wp2
        go_ret
        exact ⟨by first | rfl | (simp; done) | (simp [*]; done), by repeat (first | exact Drawn0.refl _ | apply Drawn0.step)⟩
      · rw [if_neg c6] at H
        have c6b0 : decide (0 ≤ a1) = false := decide_eq_false c6
        clear c6
        obtain rfl := Option.some.inj H
        go_enter Try.func17, Try.ntmps17
        go_wp2
        go_ret
        exact ⟨by first | rfl | (simp; done) | (simp [*]; done), by repeat (first | exact Drawn0.refl _ | apply Drawn0.step)⟩
    · rw [if_neg c5] at H
      have c5b0 : decide (a2 ≤ 64) = false := decide_eq_false c5
      clear c5
      obtain rfl := Option.some.inj H
      go_enter Try.func17, Try.ntmps17
      go_wp2
      go_ret
      exact ⟨by first | rfl | (simp; done) | (simp [*]; done), by repeat (first | exact Drawn0.refl _ | apply Drawn0.step)⟩
  · rw [if_neg c4] at H
    have c4b0 : decide (1 ≤ a2) = false := decide_eq_false c4
    clear c4
    obtain rfl := Option.some.inj H
    go_enter Try.func17, Try.ntmps17
    go_wp2
    go_ret
    exact ⟨by first | rfl | (simp; done) | (simp [*]; done), by repeat (first | exact Drawn0.refl _ | apply Drawn0.step)⟩

/-! ### leb_raw: function 18 -/
def leb_raw.l0 : Nat → List Int → Int → Int → Int → Int → Option (Int × Int × Int × Bool)
  | 0, _, _, _, _, _ => none
  | k + 1, x0, x1, x2, x10, x11 => if x11 < x2 then (if x1 ≥ (x0.length : Int) then (some (0, 0, 0, false)) else (if 0 ≤ x1 then (if x1 < (x0.length : Int) then (if 0 ≤ x11 then (if (rd x0 x1) < 128 then (some (Go.bits .or .u64 x10 (shl .u64 (IntKind.u64.wrap (Go.bits .and .u8 (rd x0 x1) 127)) x11), wrap64 (x11 + 7), wrap64 (x1 + 1), true)) else (leb_raw.l0 k x0 (wrap64 (x1 + 1)) x2 (Go.bits .or .u64 x10 (shl .u64 (IntKind.u64.wrap (Go.bits .and .u8 (rd x0 x1) 127)) x11)) (wrap64 (x11 + 7)))) else (none)) else (none)) else (none))) else (some (0, 0, 0, false))
def leb_raw.f (k : Nat) (l0 : List Int) (a1 : Int) (a2 : Int) : Option (Int × Int × Int × Bool) := leb_raw.l0 k l0 a1 a2 0 0
theorem leb_raw.mono_l : ∀ k, (∀ y0 y1 y2 y3 y4, LeO (leb_raw.l0 k y0 y1 y2 y3 y4) (leb_raw.l0 (k + 1) y0 y1 y2 y3 y4))
  | 0 => fun _ _ _ _ _ r h => by simp [leb_raw.l0] at h
  | k + 1 => by
    have ih0 := leb_raw.mono_l k
    · intro y0 y1 y2 y3 y4
      unfold leb_raw.l0
      repeat' first
      | (with_reducible exact ih0 _ _ _ _ _)
      | (with_reducible exact LeO.refl _)
      | (with_reducible exact LeO.none _)
      | (with_reducible refine LeO.ite ?_ ?_)
      | (with_reducible refine LeO.bind ?_ (fun _ => ?_))
      | exact ih0 _ _ _ _ _
      | exact LeO.none _
      | refine LeO.ite ?_ ?_
      | refine LeO.bind ?_ (fun _ => ?_)
theorem leb_raw.mono : ∀ a0 a1 a2 k, LeO (leb_raw.f k a0 a1 a2) (leb_raw.f (k + 1) a0 a1 a2) := by
  intro a0 a1 a2 k
  have ih0 := leb_raw.mono_l k
  unfold leb_raw.f
  repeat' first
      | (with_reducible exact ih0 _ _ _ _ _)
      | (with_reducible exact LeO.refl _)
      | (with_reducible exact LeO.none _)
      | (with_reducible refine LeO.ite ?_ ?_)
      | (with_reducible refine LeO.bind ?_ (fun _ => ?_))
      | exact ih0 _ _ _ _ _
      | exact LeO.none _
      | refine LeO.ite ?_ ?_
      | refine LeO.bind ?_ (fun _ => ?_)
set_option maxHeartbeats 8000000 in
set_option maxRecDepth 100000 in
theorem leb_raw.calls (k : Nat) (A0 : Option Addr) (c0 : Nat) (l0 : List Int) (a1 : Int) (a2 : Int) (r1 : Int) (r2 : Int) (r3 : Int) (r4 : Bool) (w : World) (hr0 : Kd.C (Kd.int .u8) w A0 l0.length l0) (hc0 : l0.length ≤ c0) (h : leb_raw.f k l0 a1 a2 = some (r1, r2, r3, r4)) :
    Calls Try.prog 18 #[.slice A0 l0.length c0, .int .i64 a1, .int .i64 a2] w fun e w' => e = .returned (.tuple #[.int .u64 r1, .int .i64 r2, .int .i64 r3, .bool r4]) ∧ Drawn0 w w' := by
  have HR0 := Aside0.mk hr0
  have HC0 := Aside0.mk hc0
  clear hr0 hc0
  have H : (leb_raw.l0 k l0 a1 a2 0 0) = some (r1, r2, r3, r4) := h
  clear h
  have H' := Aside0.mk H
  clear H
  go_enter Try.func18, Try.ntmps18
  go_wp2
  go_loopg [1, 10, 11] k (fun kq v1 v10 v11 w' => ∃ (x1_1 : Int) (x10_1 : Int) (x11_1 : Int), v1 = .int .i64 x1_1 ∧ v10 = .int .u64 x10_1 ∧ v11 = .int .i64 x11_1 ∧ Aside0 (leb_raw.l0 kq l0 x1_1 a2 x10_1 x11_1 = some (r1, r2, r3, r4)) ∧ Aside0 (kq ≤ k) ∧ Drawn0 w w')
  case atStart => exact ⟨(a1), (0), (0), (by first | rfl | (simp; done) | (simp [*]; done)), (by first | rfl | (simp; done) | (simp [*]; done)), (by first | rfl | (simp; done) | (simp [*]; done)), H', ⟨Nat.le_refl _⟩, by repeat (first | exact Drawn0.refl _ | apply Drawn0.step)⟩
  case round =>
    clear H'
    try clear c1
    try clear p2
    obtain ⟨x1_1, x10_1, x11_1, rfl, rfl, rfl, HA, HK1, ⟨m1, rfl⟩⟩ := hrel
    cases gk with
    | zero => exact absurd HA.out (by simp [leb_raw.l0])
    | succ k1 =>
      have H := HA.out
      clear HA
      simp only [leb_raw.l0] at H
      by_cases c4 : x11_1 < a2
      · rw [if_pos c4] at H
        have c4b0 : decide (x11_1 < a2) = true := decide_eq_true c4
        clear c4
        by_cases c5 : x1_1 ≥ (l0.length : Int)
        · rw [if_pos c5] at H
          have c5b0 : decide ((l0.length : Int) ≤ x1_1) = true := decide_eq_true c5
          clear c5
          simp only [Option.some.injEq, Prod.mk.injEq] at H
          obtain ⟨rfl, rfl, rfl, rfl⟩ := H
          go_wp2
          refine bodyPost_ret (results_list (rs := [.tmp 6, .tmp 7, .tmp 8, .tmp 9]) rfl (by simp) (.tmp (.tmp (.tmp (.tmp .nil))))) rfl ?_
          exact ⟨by first | rfl | (simp; done) | (simp [*]; done), by repeat (first | exact Drawn0.refl _ | apply Drawn0.step)⟩
        · rw [if_neg c5] at H
          have c5b0 : decide ((l0.length : Int) ≤ x1_1) = false := decide_eq_false c5
          clear c5
          by_cases c6 : 0 ≤ x1_1
          · rw [if_pos c6] at H
            have c6b0 : decide (0 ≤ x1_1) = true := decide_eq_true c6
            clear c6
            by_cases c7 : x1_1 < (l0.length : Int)
            · rw [if_pos c7] at H
              have c7b0 : decide (x1_1 < (l0.length : Int)) = true := decide_eq_true c7
              clear c7
              by_cases c8 : 0 ≤ x11_1
              · rw [if_pos c8] at H
                have c8b0 := eq_true c8
                have c8b1 : decide (0 ≤ x11_1) = true := decide_eq_true c8
                clear c8
                obtain ⟨ji9, hji9⟩ : ∃ j_ : Int, (shl .u64 (IntKind.u64.wrap (Go.bits .and .u8 (rd l0 x1_1) 127)) x11_1) = j_ := ⟨_, rfl⟩
                replace H : (if (rd l0 x1_1) < 128 then (some (Go.bits .or .u64 x10_1 (ji9), wrap64 (x11_1 + 7), wrap64 (x1_1 + 1), true)) else (leb_raw.l0 k1 l0 (wrap64 (x1_1 + 1)) a2 (Go.bits .or .u64 x10_1 (ji9)) (wrap64 (x11_1 + 7)))) = some (r1, r2, r3, r4) := by first | (rw [hji9] at H; exact H) | (simp only [hji9] at H ⊢; exact H)
                have hji9_ : (IntKind.u64.wrap ((IntKind.u64.wrap (Go.bits .and .u8 (rd l0 x1_1) 127)) * 2 ^ min x11_1.toNat 64)) = ji9 := hji9
                have hji9z : x11_1 ≤ 64 → (IntKind.u64.wrap ((IntKind.u64.wrap (Go.bits .and .u8 (rd l0 x1_1) 127)) * 2 ^ x11_1.toNat)) = ji9 := shl_small hji9
                by_cases c10 : (rd l0 x1_1) < 128
                · rw [if_pos c10] at H
                  have c10b0 : decide ((rd l0 x1_1) < 128) = true := decide_eq_true c10
                  clear c10
                  simp only [Option.some.injEq, Prod.mk.injEq] at H
                  obtain ⟨rfl, rfl, rfl, rfl⟩ := H
                  have p101 : 0 ≤ (x1_1 : Int) := of_decide_eq_true (by first | (with_reducible assumption) | assumption)
                  have q101 : x1_1 < (l0.length : Int) := of_decide_eq_true (by first | (with_reducible assumption) | assumption)
                  obtain ⟨ad101, e101, hx101_0⟩ := Kd.at_int HR0.out x1_1 p101 q101
                  cases e101
                  replace p101 := eq_true p101
                  replace q101 := eq_true q101
                  go_wp2
                  refine bodyPost_ret (results_list (rs := [.tmp 6, .tmp 7, .tmp 8, .tmp 9]) rfl (by simp) (.tmp (.tmp (.tmp (.tmp .nil))))) rfl ?_
                  exact ⟨by first | rfl | (simp; done) | (simp only [← hji9] <;> (first | rfl | simp)) | (simp [*]; done), by repeat (first | exact Drawn0.refl _ | apply Drawn0.step)⟩
                · rw [if_neg c10] at H
                  have c10b0 : decide ((rd l0 x1_1) < 128) = false := decide_eq_false c10
                  clear c10
                  have H' := Aside0.mk H
                  clear H
                  have p101 : 0 ≤ (x1_1 : Int) := of_decide_eq_true (by first | (with_reducible assumption) | assumption)
                  have q101 : x1_1 < (l0.length : Int) := of_decide_eq_true (by first | (with_reducible assumption) | assumption)
                  obtain ⟨ad101, e101, hx101_0⟩ := Kd.at_int HR0.out x1_1 p101 q101
                  cases e101
                  replace p101 := eq_true p101
                  replace q101 := eq_true q101
                  go_wp2
                  go_roundg k1
                  case measure => have := HK1.out; omega
                  case rel => exact ⟨(wrap64 (x1_1 + 1)), (Go.bits .or .u64 x10_1 (ji9)), (wrap64 (x11_1 + 7)), (by first | rfl | (simp; done) | (simp [*]; done)), (by first | rfl | (simp; done) | (simp only [← hji9] <;> (first | rfl | simp)) | (simp [*]; done)), (by first | rfl | (simp; done) | (simp [*]; done)), H', ⟨by have := HK1.out; omega⟩, by repeat (first | exact Drawn0.refl _ | apply Drawn0.step)⟩
              · rw [if_neg c8] at H
                exact absurd H (by simp)
            · rw [if_neg c7] at H
              exact absurd H (by simp)
          · rw [if_neg c6] at H
            exact absurd H (by simp)
      · rw [if_neg c4] at H
        have c4b0 : decide (x11_1 < a2) = false := decide_eq_false c4
        clear c4
        simp only [Option.some.injEq, Prod.mk.injEq] at H
        obtain ⟨rfl, rfl, rfl, rfl⟩ := H
        go_wp2
        refine bodyPost_ret (results_list (rs := [.tmp 6, .tmp 7, .tmp 8, .tmp 9]) rfl (by simp) (.tmp (.tmp (.tmp (.tmp .nil))))) rfl ?_
        exact ⟨by first | rfl | (simp; done) | (simp [*]; done), by repeat (first | exact Drawn0.refl _ | apply Drawn0.step)⟩

/-! ### leb_U: function 10 -/
def leb_U.f (k : Nat) (l0 : List Int) (a1 : Int) (a2 : Int) : Option (Int × Int × Option Int) := (leb_may.f l0 a1 a2).bind fun t102 => (if t102 = true then ((leb_raw.f k l0 a1 a2).bind fun bt103 => (if bt103.2.2.2 = true then (if bt103.2.1 > a2 then (if 0 ≤ (wrap64 (bt103.2.2.1 - 1)) then (if (wrap64 (bt103.2.2.1 - 1)) < (l0.length : Int) then (if 0 ≤ (wrap64 ((wrap64 (a2 + 7)) - bt103.2.1)) then (if (shr .u8 (rd l0 (wrap64 (bt103.2.2.1 - 1))) (wrap64 ((wrap64 (a2 + 7)) - bt103.2.1))) = 0 then (some (bt103.1, bt103.2.2.1, none)) else (some (0, 0, some 2))) else (none)) else (none)) else (none)) else (some (bt103.1, bt103.2.2.1, none))) else (some (0, 0, some 2)))) else (some (0, 0, some 1)))
theorem leb_U.mono : ∀ a0 a1 a2 k, LeO (leb_U.f k a0 a1 a2) (leb_U.f (k + 1) a0 a1 a2) := by
  intro a0 a1 a2 k
  unfold leb_U.f
  repeat' first
      | (with_reducible exact leb_raw.mono _ _ _ _)
      | (with_reducible exact LeO.refl _)
      | (with_reducible exact LeO.none _)
      | (with_reducible refine LeO.ite ?_ ?_)
      | (with_reducible refine LeO.bind ?_ (fun _ => ?_))
      | exact leb_raw.mono _ _ _ _
      | exact LeO.none _
      | refine LeO.ite ?_ ?_
      | refine LeO.bind ?_ (fun _ => ?_)
set_option maxHeartbeats 8000000 in
set_option maxRecDepth 100000 in
theorem leb_U.calls (k : Nat) (A0 : Option Addr) (c0 : Nat) (l0 : List Int) (a1 : Int) (a2 : Int) (r1 : Int) (r2 : Int) (r3 : Option Int) (w : World) (hr0 : Kd.C (Kd.int .u8) w A0 l0.length l0) (hc0 : l0.length ≤ c0) (h : leb_U.f k l0 a1 a2 = some (r1, r2, r3)) :
    Calls Try.prog 10 #[.slice A0 l0.length c0, .int .i64 a1, .int .i64 a2] w fun e w' => e = .returned (.tuple #[.int .u64 r1, .int .i64 r2, errW r3]) ∧ Drawn0 w w' := by
  have hu26 := Try.underlying26
  have hu31 := Try.underlying31
  have HR0 := Aside0.mk hr0
  have HC0 := Aside0.mk hc0
  clear hr0 hc0
  have H : ((leb_may.f l0 a1 a2).bind fun t102 => (if t102 = true then ((leb_raw.f k l0 a1 a2).bind fun bt103 => (if bt103.2.2.2 = true then (if bt103.2.1 > a2 then (if 0 ≤ (wrap64 (bt103.2.2.1 - 1)) then (if (wrap64 (bt103.2.2.1 - 1)) < (l0.length : Int) then (if 0 ≤ (wrap64 ((wrap64 (a2 + 7)) - bt103.2.1)) then (if (shr .u8 (rd l0 (wrap64 (bt103.2.2.1 - 1))) (wrap64 ((wrap64 (a2 + 7)) - bt103.2.1))) = 0 then (some (bt103.1, bt103.2.2.1, none)) else (some (0, 0, some 2))) else (none)) else (none)) else (none)) else (some (bt103.1, bt103.2.2.1, none))) else (some (0, 0, some 2)))) else (some (0, 0, some 1)))) = some (r1, r2, r3) := h
  clear h
  replace H := Option.bind_eq_some_iff.mp H
  obtain ⟨t102, A40, H⟩ := H
  replace H : (if t102 = true then ((leb_raw.f k l0 a1 a2).bind fun bt103 => (if bt103.2.2.2 = true then (if bt103.2.1 > a2 then (if 0 ≤ (wrap64 (bt103.2.2.1 - 1)) then (if (wrap64 (bt103.2.2.1 - 1)) < (l0.length : Int) then (if 0 ≤ (wrap64 ((wrap64 (a2 + 7)) - bt103.2.1)) then (if (shr .u8 (rd l0 (wrap64 (bt103.2.2.1 - 1))) (wrap64 ((wrap64 (a2 + 7)) - bt103.2.1))) = 0 then (some (bt103.1, bt103.2.2.1, none)) else (some (0, 0, some 2))) else (none)) else (none)) else (none)) else (some (bt103.1, bt103.2.2.1, none))) else (some (0, 0, some 2)))) else (some (0, 0, some 1))) = some (r1, r2, r3) := H
  have A4 := Aside0.mk A40
  clear A40
  by_cases c5 : t102 = true
  · subst c5
    have H1 : ((leb_raw.f k l0 a1 a2).bind fun bt103 => (if bt103.2.2.2 = true then (if bt103.2.1 > a2 then (if 0 ≤ (wrap64 (bt103.2.2.1 - 1)) then (if (wrap64 (bt103.2.2.1 - 1)) < (l0.length : Int) then (if 0 ≤ (wrap64 ((wrap64 (a2 + 7)) - bt103.2.1)) then (if (shr .u8 (rd l0 (wrap64 (bt103.2.2.1 - 1))) (wrap64 ((wrap64 (a2 + 7)) - bt103.2.1))) = 0 then (some (bt103.1, bt103.2.2.1, none)) else (some (0, 0, some 2))) else (none)) else (none)) else (none)) else (some (bt103.1, bt103.2.2.1, none))) else (some (0, 0, some 2)))) = some (r1, r2, r3) := by rw [if_pos rfl] at H; exact H
    clear H
    have H := H1
    clear H1
    replace H := Option.bind_eq_some_iff.mp H
    obtain ⟨⟨t103, t104, t105, t106⟩, A60, H⟩ := H
    replace H : (if t106 = true then (if t104 > a2 then (if 0 ≤ (wrap64 (t105 - 1)) then (if (wrap64 (t105 - 1)) < (l0.length : Int) then (if 0 ≤ (wrap64 ((wrap64 (a2 + 7)) - t104)) then (if (shr .u8 (rd l0 (wrap64 (t105 - 1))) (wrap64 ((wrap64 (a2 + 7)) - t104))) = 0 then (some (t103, t105, none)) else (some (0, 0, some 2))) else (none)) else (none)) else (none)) else (some (t103, t105, none))) else (some (0, 0, some 2))) = some (r1, r2, r3) := H
    have A6 := Aside0.mk A60
    clear A60
    by_cases c7 : t106 = true
    · subst c7
      have H1 : (if t104 > a2 then (if 0 ≤ (wrap64 (t105 - 1)) then (if (wrap64 (t105 - 1)) < (l0.length : Int) then (if 0 ≤ (wrap64 ((wrap64 (a2 + 7)) - t104)) then (if (shr .u8 (rd l0 (wrap64 (t105 - 1))) (wrap64 ((wrap64 (a2 + 7)) - t104))) = 0 then (some (t103, t105, none)) else (some (0, 0, some 2))) else (none)) else (none)) else (none)) else (some (t103, t105, none))) = some (r1, r2, r3) := by rw [if_pos rfl] at H; exact H
      clear H
      have H := H1
      clear H1
      by_cases c8 : t104 > a2
      · rw [if_pos c8] at H
        have c8b0 : decide (a2 < t104) = true := decide_eq_true c8
        clear c8
        obtain ⟨ji9, hji9⟩ : ∃ j_ : Int, (wrap64 (t105 - 1)) = j_ := ⟨_, rfl⟩
        replace H : (if 0 ≤ (ji9) then (if (ji9) < (l0.length : Int) then (if 0 ≤ (wrap64 ((wrap64 (a2 + 7)) - t104)) then (if (shr .u8 (rd l0 (ji9)) (wrap64 ((wrap64 (a2 + 7)) - t104))) = 0 then (some (t103, t105, none)) else (some (0, 0, some 2))) else (none)) else (none)) else (none)) = some (r1, r2, r3) := by first | (rw [hji9] at H; exact H) | (simp only [hji9] at H ⊢; exact H)
        (try rw [hji9] at A4)
        (try rw [hji9] at A6)
        have hji9w : (IntKind.i64.wrap (t105 - 1)) = ji9 := (i64_w _).trans hji9
        by_cases c10 : 0 ≤ (ji9)
        · rw [if_pos c10] at H
          have c10b0 : decide (0 ≤ (ji9)) = true := decide_eq_true c10
          clear c10
          by_cases c11 : (ji9) < (l0.length : Int)
          · rw [if_pos c11] at H
            have c11b0 : decide ((ji9) < (l0.length : Int)) = true := decide_eq_true c11
            clear c11
            obtain ⟨ji12, hji12⟩ : ∃ j_ : Int, (wrap64 ((wrap64 (a2 + 7)) - t104)) = j_ := ⟨_, rfl⟩
            replace H : (if 0 ≤ (ji12) then (if (shr .u8 (rd l0 (ji9)) (ji12)) = 0 then (some (t103, t105, none)) else (some (0, 0, some 2))) else (none)) = some (r1, r2, r3) := by first | (rw [hji12] at H; exact H) | (simp only [hji12] at H ⊢; exact H)
            (try rw [hji12] at A4)
            (try rw [hji12] at A6)
            have hji12w : (IntKind.i64.wrap ((wrap64 (a2 + 7)) - t104)) = ji12 := (i64_w _).trans hji12
            by_cases c13 : 0 ≤ (ji12)
            · rw [if_pos c13] at H
              have c13b0 := eq_true c13
              have c13b1 : decide (0 ≤ (ji12)) = true := decide_eq_true c13
              clear c13
              obtain ⟨ji14, hji14⟩ : ∃ j_ : Int, (shr .u8 (rd l0 (ji9)) (ji12)) = j_ := ⟨_, rfl⟩
              replace H : (if (ji14) = 0 then (some (t103, t105, none)) else (some (0, 0, some 2))) = some (r1, r2, r3) := by first | (rw [hji14] at H; exact H) | (simp only [hji14] at H ⊢; exact H)
              (try rw [hji14] at A4)
              (try rw [hji14] at A6)
              have hji14_ : ((rd l0 (ji9)) / 2 ^ min (ji12).toNat 8) = ji14 := hji14
              have hji14z : (ji12) ≤ 8 → ((rd l0 (ji9)) / 2 ^ (ji12).toNat) = ji14 := shr_small hji14
              by_cases c15 : (ji14) = 0
              · rw [if_pos c15] at H
                have c15b0 : ((ji14) == 0) = true := beq_iff_eq.mpr c15
                have c15b1 : ((ji14) != 0) = false := bne_eq_false_iff_eq.mpr c15
                clear c15
                simp only [Option.some.injEq, Prod.mk.injEq] at H
                obtain ⟨rfl, rfl, rfl⟩ := H
                go_enter Try.func10, Try.ntmps10
                go_wp2_with (first | ((with_reducible refine gate_callee (f := 17) rfl ?_); refine goesL_ (some 16) rfl rfl Try.func17 (by kernel_rfl) rfl #[.slice A0 l0.length c0, .int .i64 a1, .int .i64 a2] rfl (by (try simp only [List.map_toArray, List.map_cons, List.map_nil]); first | done | rfl | (simp only [List.length_drop, List.length_take]; rfl)) ?_; (with_reducible refine (leb_may.calls _ _ l0 a1 a2 true _ ?side1 ?side2 A4.out).mono ?_); (case side1 => repeat (first | exact HR0.out | (with_reducible refine Kd.C_alloc ?_ _) | (with_reducible refine Kd.C_drewN ?_ _) | (with_reducible refine Kd.C_drew ?_))); (case side2 => exact HC0.out); rintro e w' ⟨rfl, ⟨nd, rfl⟩⟩; refine ⟨_, rfl, ?_⟩) | ((with_reducible refine gate_callee (f := 18) rfl ?_); refine goesL_ (some 23) rfl rfl Try.func18 (by kernel_rfl) rfl #[.slice A0 l0.length c0, .int .i64 a1, .int .i64 a2] rfl (by (try simp only [List.map_toArray, List.map_cons, List.map_nil]); first | done | rfl | (simp only [List.length_drop, List.length_take]; rfl)) ?_; (with_reducible refine (leb_raw.calls k _ _ l0 a1 a2 t103 t104 t105 true _ ?side1 ?side2 A6.out).mono ?_); (case side1 => repeat (first | exact HR0.out | (with_reducible refine Kd.C_alloc ?_ _) | (with_reducible refine Kd.C_drewN ?_ _) | (with_reducible refine Kd.C_drew ?_))); (case side2 => exact HC0.out); rintro e w' ⟨rfl, ⟨nd, rfl⟩⟩; refine ⟨_, rfl, ?_⟩; have p107 : 0 ≤ ((ji9) : Int) := of_decide_eq_true (by first | (with_reducible assumption) | assumption); have q107 : (ji9) < (l0.length : Int) := of_decide_eq_true (by first | (with_reducible assumption) | assumption); obtain ⟨ad107, e107, hx107_0⟩ := Kd.at_int HR0.out (ji9) p107 q107; cases e107; replace p107 := eq_true p107; replace q107 := eq_true q107))
                go_ret3
                exact ⟨by first | rfl | (simp; done) | (simp only [← hji9, ← hji12, ← hji14] <;> (first | rfl | simp)) | (simp [*]; done), by repeat (first | exact Drawn0.refl _ | apply Drawn0.step)⟩
              · rw [if_neg c15] at H
                have c15b0 : ((ji14) == 0) = false := beq_eq_false_iff_ne.mpr c15
                have c15b1 : ((ji14) != 0) = true := bne_iff_ne.mpr c15
                simp only [Option.some.injEq, Prod.mk.injEq] at H
                obtain ⟨rfl, rfl, rfl⟩ := H
                go_enter Try.func10, Try.ntmps10
                go_wp2_with (first | ((with_reducible refine gate_callee (f := 17) rfl ?_); refine goesL_ (some 16) rfl rfl Try.func17 (by kernel_rfl) rfl #[.slice A0 l0.length c0, .int .i64 a1, .int .i64 a2] rfl (by (try simp only [List.map_toArray, List.map_cons, List.map_nil]); first | done | rfl | (simp only [List.length_drop, List.length_take]; rfl)) ?_; (with_reducible refine (leb_may.calls _ _ l0 a1 a2 true _ ?side1 ?side2 A4.out).mono ?_); (case side1 => repeat (first | exact HR0.out | (with_reducible refine Kd.C_alloc ?_ _) | (with_reducible refine Kd.C_drewN ?_ _) | (with_reducible refine Kd.C_drew ?_))); (case side2 => exact HC0.out); rintro e w' ⟨rfl, ⟨nd, rfl⟩⟩; refine ⟨_, rfl, ?_⟩) | ((with_reducible refine gate_callee (f := 18) rfl ?_); refine goesL_ (some 23) rfl rfl Try.func18 (by kernel_rfl) rfl #[.slice A0 l0.length c0, .int .i64 a1, .int .i64 a2] rfl (by (try simp only [List.map_toArray, List.map_cons, List.map_nil]); first | done | rfl | (simp only [List.length_drop, List.length_take]; rfl)) ?_; (with_reducible refine (leb_raw.calls k _ _ l0 a1 a2 t103 t104 t105 true _ ?side1 ?side2 A6.out).mono ?_); (case side1 => repeat (first | exact HR0.out | (with_reducible refine Kd.C_alloc ?_ _) | (with_reducible refine Kd.C_drewN ?_ _) | (with_reducible refine Kd.C_drew ?_))); (case side2 => exact HC0.out); rintro e w' ⟨rfl, ⟨nd, rfl⟩⟩; refine ⟨_, rfl, ?_⟩; have p107 : 0 ≤ ((ji9) : Int) := of_decide_eq_true (by first | (with_reducible assumption) | assumption); have q107 : (ji9) < (l0.length : Int) := of_decide_eq_true (by first | (with_reducible assumption) | assumption); obtain ⟨ad107, e107, hx107_0⟩ := Kd.at_int HR0.out (ji9) p107 q107; cases e107; replace p107 := eq_true p107; replace q107 := eq_true q107))
                go_ret3
                exact ⟨by first | rfl | (simp; done) | (simp only [← hji9, ← hji12, ← hji14] <;> (first | rfl | simp)) | (simp [*]; done), by repeat (first | exact Drawn0.refl _ | apply Drawn0.step)⟩
            · rw [if_neg c13] at H
              exact absurd H (by simp)
          · rw [if_neg c11] at H
            exact absurd H (by simp)
        · rw [if_neg c10] at H
          exact absurd H (by simp)
      · rw [if_neg c8] at H
        have c8b0 : decide (a2 < t104) = false := decide_eq_false c8
        clear c8
        simp only [Option.some.injEq, Prod.mk.injEq] at H
        obtain ⟨rfl, rfl, rfl⟩ := H
        go_enter Try.func10, Try.ntmps10
        go_wp2_with (first | ((with_reducible refine gate_callee (f := 17) rfl ?_); refine goesL_ (some 16) rfl rfl Try.func17 (by kernel_rfl) rfl #[.slice A0 l0.length c0, .int .i64 a1, .int .i64 a2] rfl (by (try simp only [List.map_toArray, List.map_cons, List.map_nil]); first | done | rfl | (simp only [List.length_drop, List.length_take]; rfl)) ?_; (with_reducible refine (leb_may.calls _ _ l0 a1 a2 true _ ?side1 ?side2 A4.out).mono ?_); (case side1 => repeat (first | exact HR0.out | (with_reducible refine Kd.C_alloc ?_ _) | (with_reducible refine Kd.C_drewN ?_ _) | (with_reducible refine Kd.C_drew ?_))); (case side2 => exact HC0.out); rintro e w' ⟨rfl, ⟨nd, rfl⟩⟩; refine ⟨_, rfl, ?_⟩) | ((with_reducible refine gate_callee (f := 18) rfl ?_); refine goesL_ (some 23) rfl rfl Try.func18 (by kernel_rfl) rfl #[.slice A0 l0.length c0, .int .i64 a1, .int .i64 a2] rfl (by (try simp only [List.map_toArray, List.map_cons, List.map_nil]); first | done | rfl | (simp only [List.length_drop, List.length_take]; rfl)) ?_; (with_reducible refine (leb_raw.calls k _ _ l0 a1 a2 t103 t104 t105 true _ ?side1 ?side2 A6.out).mono ?_); (case side1 => repeat (first | exact HR0.out | (with_reducible refine Kd.C_alloc ?_ _) | (with_reducible refine Kd.C_drewN ?_ _) | (with_reducible refine Kd.C_drew ?_))); (case side2 => exact HC0.out); rintro e w' ⟨rfl, ⟨nd, rfl⟩⟩; refine ⟨_, rfl, ?_⟩))
        go_ret3
        exact ⟨by first | rfl | (simp; done) | (simp [*]; done), by repeat (first | exact Drawn0.refl _ | apply Drawn0.step)⟩
    · replace c7 := Bool.eq_false_iff.mpr c7
      subst c7
      have H1 : (some (0, 0, some 2)) = some (r1, r2, r3) := by rw [if_neg (show ¬ (false = true) by decide)] at H; exact H
      clear H
      have H := H1
      clear H1
      simp only [Option.some.injEq, Prod.mk.injEq] at H
      obtain ⟨rfl, rfl, rfl⟩ := H
      go_enter Try.func10, Try.ntmps10
      go_wp2_with (first | ((with_reducible refine gate_callee (f := 17) rfl ?_); refine goesL_ (some 16) rfl rfl Try.func17 (by kernel_rfl) rfl #[.slice A0 l0.length c0, .int .i64 a1, .int .i64 a2] rfl (by (try simp only [List.map_toArray, List.map_cons, List.map_nil]); first | done | rfl | (simp only [List.length_drop, List.length_take]; rfl)) ?_; (with_reducible refine (leb_may.calls _ _ l0 a1 a2 true _ ?side1 ?side2 A4.out).mono ?_); (case side1 => repeat (first | exact HR0.out | (with_reducible refine Kd.C_alloc ?_ _) | (with_reducible refine Kd.C_drewN ?_ _) | (with_reducible refine Kd.C_drew ?_))); (case side2 => exact HC0.out); rintro e w' ⟨rfl, ⟨nd, rfl⟩⟩; refine ⟨_, rfl, ?_⟩) | ((with_reducible refine gate_callee (f := 18) rfl ?_); refine goesL_ (some 23) rfl rfl Try.func18 (by kernel_rfl) rfl #[.slice A0 l0.length c0, .int .i64 a1, .int .i64 a2] rfl (by (try simp only [List.map_toArray, List.map_cons, List.map_nil]); first | done | rfl | (simp only [List.length_drop, List.length_take]; rfl)) ?_; (with_reducible refine (leb_raw.calls k _ _ l0 a1 a2 t103 t104 t105 false _ ?side1 ?side2 A6.out).mono ?_); (case side1 => repeat (first | exact HR0.out | (with_reducible refine Kd.C_alloc ?_ _) | (with_reducible refine Kd.C_drewN ?_ _) | (with_reducible refine Kd.C_drew ?_))); (case side2 => exact HC0.out); rintro e w' ⟨rfl, ⟨nd, rfl⟩⟩; refine ⟨_, rfl, ?_⟩))
      go_ret3
      exact ⟨by first | rfl | (simp; done) | (simp [*]; done), by repeat (first | exact Drawn0.refl _ | apply Drawn0.step)⟩
  · replace c5 := Bool.eq_false_iff.mpr c5
    subst c5
    have H1 : (some (0, 0, some 1)) = some (r1, r2, r3) := by rw [if_neg (show ¬ (false = true) by decide)] at H; exact H
    clear H
    have H := H1
    clear H1
    simp only [Option.some.injEq, Prod.mk.injEq] at H
    obtain ⟨rfl, rfl, rfl⟩ := H
    go_enter Try.func10, Try.ntmps10
    go_wp2_with (first | ((with_reducible refine gate_callee (f := 17) rfl ?_); refine goesL_ (some 16) rfl rfl Try.func17 (by kernel_rfl) rfl #[.slice A0 l0.length c0, .int .i64 a1, .int .i64 a2] rfl (by (try simp only [List.map_toArray, List.map_cons, List.map_nil]); first | done | rfl | (simp only [List.length_drop, List.length_take]; rfl)) ?_; (with_reducible refine (leb_may.calls _ _ l0 a1 a2 false _ ?side1 ?side2 A4.out).mono ?_); (case side1 => repeat (first | exact HR0.out | (with_reducible refine Kd.C_alloc ?_ _) | (with_reducible refine Kd.C_drewN ?_ _) | (with_reducible refine Kd.C_drew ?_))); (case side2 => exact HC0.out); rintro e w' ⟨rfl, ⟨nd, rfl⟩⟩; refine ⟨_, rfl, ?_⟩))
    go_ret3
    exact ⟨by first | rfl | (simp; done) | (simp [*]; done), by repeat (first | exact Drawn0.refl _ | apply Drawn0.step)⟩

/-! ### leb_S: function 11 -/
def leb_S.j0 : Nat → Int → Int → Int → Int → Bool → Option (Int × Int × Option Int)
  | 0, _, _, _, _, _ => none
  | k + 1, x9, x10, x11, x13, x58 => if x58 = true then (some (0, 0, some 2)) else (if x10 < 64 then (if (Go.bits .and .u8 x13 64) = 0 then (some (wrap64 (x9), x11, none)) else (if 0 ≤ x10 then (some (wrap64 (Go.bits .or .u64 x9 (shl .u64 18446744073709551615 x10)), x11, none)) else (none))) else (some (wrap64 (x9), x11, none)))
def leb_S.f (k : Nat) (l0 : List Int) (a1 : Int) (a2 : Int) : Option (Int × Int × Option Int) := (leb_may.f l0 a1 a2).bind fun t108 => (if t108 = true then ((leb_raw.f k l0 a1 a2).bind fun bt109 => (if bt109.2.2.2 = true then (if 0 ≤ (wrap64 (bt109.2.2.1 - 1)) then (if (wrap64 (bt109.2.2.1 - 1)) < (l0.length : Int) then (if bt109.2.1 > a2 then (if 0 ≤ (wrap64 ((wrap64 ((wrap64 (a2 + 7)) - bt109.2.1)) - 1)) then (if (shr .u8 (rd l0 (wrap64 (bt109.2.2.1 - 1))) (wrap64 ((wrap64 ((wrap64 (a2 + 7)) - bt109.2.1)) - 1))) = 0 then (leb_S.j0 k bt109.1 bt109.2.1 bt109.2.2.1 (rd l0 (wrap64 (bt109.2.2.1 - 1))) false) else (leb_S.j0 k bt109.1 bt109.2.1 bt109.2.2.1 (rd l0 (wrap64 (bt109.2.2.1 - 1))) ((shr .u8 (rd l0 (wrap64 (bt109.2.2.1 - 1))) (wrap64 ((wrap64 ((wrap64 (a2 + 7)) - bt109.2.1)) - 1))) != (shr .u8 127 (wrap64 ((wrap64 ((wrap64 (a2 + 7)) - bt109.2.1)) - 1)))))) else (none)) else (if bt109.2.1 < 64 then (if (Go.bits .and .u8 (rd l0 (wrap64 (bt109.2.2.1 - 1))) 64) = 0 then (some (wrap64 (bt109.1), bt109.2.2.1, none)) else (if 0 ≤ bt109.2.1 then (some (wrap64 (Go.bits .or .u64 bt109.1 (shl .u64 18446744073709551615 bt109.2.1)), bt109.2.2.1, none)) else (none))) else (some (wrap64 (bt109.1), bt109.2.2.1, none)))) else (none)) else (none)) else (some (0, 0, some 2)))) else (some (0, 0, some 1)))
theorem leb_S.mono_l : ∀ k, (∀ y0 y1 y2 y3 y4, LeO (leb_S.j0 k y0 y1 y2 y3 y4) (leb_S.j0 (k + 1) y0 y1 y2 y3 y4))
  | 0 => fun _ _ _ _ _ r h => by simp [leb_S.j0] at h
  | k + 1 => by
    have ih0 := leb_S.mono_l k
    · intro y0 y1 y2 y3 y4
      unfold leb_S.j0
      repeat' first
      | (with_reducible exact ih0 _ _ _ _ _)
      | (with_reducible exact leb_raw.mono _ _ _ _)
      | (with_reducible exact LeO.refl _)
      | (with_reducible exact LeO.none _)
      | (with_reducible refine LeO.ite ?_ ?_)
      | (with_reducible refine LeO.bind ?_ (fun _ => ?_))
      | exact ih0 _ _ _ _ _
      | exact leb_raw.mono _ _ _ _
      | exact LeO.none _
      | refine LeO.ite ?_ ?_
      | refine LeO.bind ?_ (fun _ => ?_)
theorem leb_S.mono : ∀ a0 a1 a2 k, LeO (leb_S.f k a0 a1 a2) (leb_S.f (k + 1) a0 a1 a2) := by
  intro a0 a1 a2 k
  have ih0 := leb_S.mono_l k
  unfold leb_S.f
  repeat' first
      | (with_reducible exact ih0 _ _ _ _ _)
      | (with_reducible exact leb_raw.mono _ _ _ _)
      | (with_reducible exact LeO.refl _)
      | (with_reducible exact LeO.none _)
      | (with_reducible refine LeO.ite ?_ ?_)
      | (with_reducible refine LeO.bind ?_ (fun _ => ?_))
      | exact ih0 _ _ _ _ _
      | exact leb_raw.mono _ _ _ _
      | exact LeO.none _
      | refine LeO.ite ?_ ?_
      | refine LeO.bind ?_ (fun _ => ?_)
set_option maxHeartbeats 8000000 in
set_option maxRecDepth 100000 in
theorem leb_S.calls (k : Nat) (A0 : Option Addr) (c0 : Nat) (l0 : List Int) (a1 : Int) (a2 : Int) (r1 : Int) (r2 : Int) (r3 : Option Int) (w : World) (hr0 : Kd.C (Kd.int .u8) w A0 l0.length l0) (hc0 : l0.length ≤ c0) (h : leb_S.f k l0 a1 a2 = some (r1, r2, r3)) :
    Calls Try.prog 11 #[.slice A0 l0.length c0, .int .i64 a1, .int .i64 a2] w fun e w' => e = .returned (.tuple #[.int .i64 r1, .int .i64 r2, errW r3]) ∧ Drawn0 w w' := by
  have hu26 := Try.underlying26
  have hu31 := Try.underlying31
  have HR0 := Aside0.mk hr0
  have HC0 := Aside0.mk hc0
  clear hr0 hc0
  have H : ((leb_may.f l0 a1 a2).bind fun t108 => (if t108 = true then ((leb_raw.f k l0 a1 a2).bind fun bt109 => (if bt109.2.2.2 = true then (if 0 ≤ (wrap64 (bt109.2.2.1 - 1)) then (if (wrap64 (bt109.2.2.1 - 1)) < (l0.length : Int) then (if bt109.2.1 > a2 then (if 0 ≤ (wrap64 ((wrap64 ((wrap64 (a2 + 7)) - bt109.2.1)) - 1)) then (if (shr .u8 (rd l0 (wrap64 (bt109.2.2.1 - 1))) (wrap64 ((wrap64 ((wrap64 (a2 + 7)) - bt109.2.1)) - 1))) = 0 then (leb_S.j0 k bt109.1 bt109.2.1 bt109.2.2.1 (rd l0 (wrap64 (bt109.2.2.1 - 1))) false) else (leb_S.j0 k bt109.1 bt109.2.1 bt109.2.2.1 (rd l0 (wrap64 (bt109.2.2.1 - 1))) ((shr .u8 (rd l0 (wrap64 (bt109.2.2.1 - 1))) (wrap64 ((wrap64 ((wrap64 (a2 + 7)) - bt109.2.1)) - 1))) != (shr .u8 127 (wrap64 ((wrap64 ((wrap64 (a2 + 7)) - bt109.2.1)) - 1)))))) else (none)) else (if bt109.2.1 < 64 then (if (Go.bits .and .u8 (rd l0 (wrap64 (bt109.2.2.1 - 1))) 64) = 0 then (some (wrap64 (bt109.1), bt109.2.2.1, none)) else (if 0 ≤ bt109.2.1 then (some (wrap64 (Go.bits .or .u64 bt109.1 (shl .u64 18446744073709551615 bt109.2.1)), bt109.2.2.1, none)) else (none))) else (some (wrap64 (bt109.1), bt109.2.2.1, none)))) else (none)) else (none)) else (some (0, 0, some 2)))) else (some (0, 0, some 1)))) = some (r1, r2, r3) := h
  clear h
  replace H := Option.bind_eq_some_iff.mp H
  obtain ⟨t108, A40, H⟩ := H
  replace H : (if t108 = true then ((leb_raw.f k l0 a1 a2).bind fun bt109 => (if bt109.2.2.2 = true then (if 0 ≤ (wrap64 (bt109.2.2.1 - 1)) then (if (wrap64 (bt109.2.2.1 - 1)) < (l0.length : Int) then (if bt109.2.1 > a2 then (if 0 ≤ (wrap64 ((wrap64 ((wrap64 (a2 + 7)) - bt109.2.1)) - 1)) then (if (shr .u8 (rd l0 (wrap64 (bt109.2.2.1 - 1))) (wrap64 ((wrap64 ((wrap64 (a2 + 7)) - bt109.2.1)) - 1))) = 0 then (leb_S.j0 k bt109.1 bt109.2.1 bt109.2.2.1 (rd l0 (wrap64 (bt109.2.2.1 - 1))) false) else (leb_S.j0 k bt109.1 bt109.2.1 bt109.2.2.1 (rd l0 (wrap64 (bt109.2.2.1 - 1))) ((shr .u8 (rd l0 (wrap64 (bt109.2.2.1 - 1))) (wrap64 ((wrap64 ((wrap64 (a2 + 7)) - bt109.2.1)) - 1))) != (shr .u8 127 (wrap64 ((wrap64 ((wrap64 (a2 + 7)) - bt109.2.1)) - 1)))))) else (none)) else (if bt109.2.1 < 64 then (if (Go.bits .and .u8 (rd l0 (wrap64 (bt109.2.2.1 - 1))) 64) = 0 then (some (wrap64 (bt109.1), bt109.2.2.1, none)) else (if 0 ≤ bt109.2.1 then (some (wrap64 (Go.bits .or .u64 bt109.1 (shl .u64 18446744073709551615 bt109.2.1)), bt109.2.2.1, none)) else (none))) else (some (wrap64 (bt109.1), bt109.2.2.1, none)))) else (none)) else (none)) else (some (0, 0, some 2)))) else (some (0, 0, some 1))) = some (r1, r2, r3) := H
  have A4 := Aside0.mk A40
  clear A40
  by_cases c5 : t108 = true
  · subst c5
    have H1 : ((leb_raw.f k l0 a1 a2).bind fun bt109 => (if bt109.2.2.2 = true then (if 0 ≤ (wrap64 (bt109.2.2.1 - 1)) then (if (wrap64 (bt109.2.2.1 - 1)) < (l0.length : Int) then (if bt109.2.1 > a2 then (if 0 ≤ (wrap64 ((wrap64 ((wrap64 (a2 + 7)) - bt109.2.1)) - 1)) then (if (shr .u8 (rd l0 (wrap64 (bt109.2.2.1 - 1))) (wrap64 ((wrap64 ((wrap64 (a2 + 7)) - bt109.2.1)) - 1))) = 0 then (leb_S.j0 k bt109.1 bt109.2.1 bt109.2.2.1 (rd l0 (wrap64 (bt109.2.2.1 - 1))) false) else (leb_S.j0 k bt109.1 bt109.2.1 bt109.2.2.1 (rd l0 (wrap64 (bt109.2.2.1 - 1))) ((shr .u8 (rd l0 (wrap64 (bt109.2.2.1 - 1))) (wrap64 ((wrap64 ((wrap64 (a2 + 7)) - bt109.2.1)) - 1))) != (shr .u8 127 (wrap64 ((wrap64 ((wrap64 (a2 + 7)) - bt109.2.1)) - 1)))))) else (none)) else (if bt109.2.1 < 64 then (if (Go.bits .and .u8 (rd l0 (wrap64 (bt109.2.2.1 - 1))) 64) = 0 then (some (wrap64 (bt109.1), bt109.2.2.1, none)) else (if 0 ≤ bt109.2.1 then (some (wrap64 (Go.bits .or .u64 bt109.1 (shl .u64 18446744073709551615 bt109.2.1)), bt109.2.2.1, none)) else (none))) else (some (wrap64 (bt109.1), bt109.2.2.1, none)))) else (none)) else (none)) else (some (0, 0, some 2)))) = some (r1, r2, r3) := by rw [if_pos rfl] at H; exact H
    clear H
    have H := H1
    clear H1
    replace H := Option.bind_eq_some_iff.mp H
    obtain ⟨⟨t109, t110, t111, t112⟩, A60, H⟩ := H
    replace H : (if t112 = true then (if 0 ≤ (wrap64 (t111 - 1)) then (if (wrap64 (t111 - 1)) < (l0.length : Int) then (if t110 > a2 then (if 0 ≤ (wrap64 ((wrap64 ((wrap64 (a2 + 7)) - t110)) - 1)) then (if (shr .u8 (rd l0 (wrap64 (t111 - 1))) (wrap64 ((wrap64 ((wrap64 (a2 + 7)) - t110)) - 1))) = 0 then (leb_S.j0 k t109 t110 t111 (rd l0 (wrap64 (t111 - 1))) false) else (leb_S.j0 k t109 t110 t111 (rd l0 (wrap64 (t111 - 1))) ((shr .u8 (rd l0 (wrap64 (t111 - 1))) (wrap64 ((wrap64 ((wrap64 (a2 + 7)) - t110)) - 1))) != (shr .u8 127 (wrap64 ((wrap64 ((wrap64 (a2 + 7)) - t110)) - 1)))))) else (none)) else (if t110 < 64 then (if (Go.bits .and .u8 (rd l0 (wrap64 (t111 - 1))) 64) = 0 then (some (wrap64 (t109), t111, none)) else (if 0 ≤ t110 then (some (wrap64 (Go.bits .or .u64 t109 (shl .u64 18446744073709551615 t110)), t111, none)) else (none))) else (some (wrap64 (t109), t111, none)))) else (none)) else (none)) else (some (0, 0, some 2))) = some (r1, r2, r3) := H
    have A6 := Aside0.mk A60
    clear A60
    by_cases c7 : t112 = true
    · subst c7
      have H1 : (if 0 ≤ (wrap64 (t111 - 1)) then (if (wrap64 (t111 - 1)) < (l0.length : Int) then (if t110 > a2 then (if 0 ≤ (wrap64 ((wrap64 ((wrap64 (a2 + 7)) - t110)) - 1)) then (if (shr .u8 (rd l0 (wrap64 (t111 - 1))) (wrap64 ((wrap64 ((wrap64 (a2 + 7)) - t110)) - 1))) = 0 then (leb_S.j0 k t109 t110 t111 (rd l0 (wrap64 (t111 - 1))) false) else (leb_S.j0 k t109 t110 t111 (rd l0 (wrap64 (t111 - 1))) ((shr .u8 (rd l0 (wrap64 (t111 - 1))) (wrap64 ((wrap64 ((wrap64 (a2 + 7)) - t110)) - 1))) != (shr .u8 127 (wrap64 ((wrap64 ((wrap64 (a2 + 7)) - t110)) - 1)))))) else (none)) else (if t110 < 64 then (if (Go.bits .and .u8 (rd l0 (wrap64 (t111 - 1))) 64) = 0 then (some (wrap64 (t109), t111, none)) else (if 0 ≤ t110 then (some (wrap64 (Go.bits .or .u64 t109 (shl .u64 18446744073709551615 t110)), t111, none)) else (none))) else (some (wrap64 (t109), t111, none)))) else (none)) else (none)) = some (r1, r2, r3) := by rw [if_pos rfl] at H; exact H
      clear H
      have H := H1
      clear H1
      obtain ⟨ji8, hji8⟩ : ∃ j_ : Int, (wrap64 (t111 - 1)) = j_ := ⟨_, rfl⟩
      replace H : (if 0 ≤ (ji8) then (if (ji8) < (l0.length : Int) then (if t110 > a2 then (if 0 ≤ (wrap64 ((wrap64 ((wrap64 (a2 + 7)) - t110)) - 1)) then (if (shr .u8 (rd l0 (ji8)) (wrap64 ((wrap64 ((wrap64 (a2 + 7)) - t110)) - 1))) = 0 then (leb_S.j0 k t109 t110 t111 (rd l0 (ji8)) false) else (leb_S.j0 k t109 t110 t111 (rd l0 (ji8)) ((shr .u8 (rd l0 (ji8)) (wrap64 ((wrap64 ((wrap64 (a2 + 7)) - t110)) - 1))) != (shr .u8 127 (wrap64 ((wrap64 ((wrap64 (a2 + 7)) - t110)) - 1)))))) else (none)) else (if t110 < 64 then (if (Go.bits .and .u8 (rd l0 (ji8)) 64) = 0 then (some (wrap64 (t109), t111, none)) else (if 0 ≤ t110 then (some (wrap64 (Go.bits .or .u64 t109 (shl .u64 18446744073709551615 t110)), t111, none)) else (none))) else (some (wrap64 (t109), t111, none)))) else (none)) else (none)) = some (r1, r2, r3) := by first | (rw [hji8] at H; exact H) | (simp only [hji8] at H ⊢; exact H)
      (try rw [hji8] at A4)
      (try rw [hji8] at A6)
      have hji8w : (IntKind.i64.wrap (t111 - 1)) = ji8 := (i64_w _).trans hji8
      by_cases c9 : 0 ≤ (ji8)
      · rw [if_pos c9] at H
        have c9b0 : decide (0 ≤ (ji8)) = true := decide_eq_true c9
        clear c9
        by_cases c10 : (ji8) < (l0.length : Int)
        · rw [if_pos c10] at H
          have c10b0 : decide ((ji8) < (l0.length : Int)) = true := decide_eq_true c10
          clear c10
          by_cases c11 : t110 > a2
          · rw [if_pos c11] at H
            have c11b0 : decide (a2 < t110) = true := decide_eq_true c11
            clear c11
            obtain ⟨ji12, hji12⟩ : ∃ j_ : Int, (wrap64 ((wrap64 ((wrap64 (a2 + 7)) - t110)) - 1)) = j_ := ⟨_, rfl⟩
            replace H : (if 0 ≤ (ji12) then (if (shr .u8 (rd l0 (ji8)) (ji12)) = 0 then (leb_S.j0 k t109 t110 t111 (rd l0 (ji8)) false) else (leb_S.j0 k t109 t110 t111 (rd l0 (ji8)) ((shr .u8 (rd l0 (ji8)) (ji12)) != (shr .u8 127 (ji12))))) else (none)) = some (r1, r2, r3) := by first | (rw [hji12] at H; exact H) | (simp only [hji12] at H ⊢; exact H)
            (try rw [hji12] at A4)
            (try rw [hji12] at A6)
            have hji12w : (IntKind.i64.wrap ((wrap64 ((wrap64 (a2 + 7)) - t110)) - 1)) = ji12 := (i64_w _).trans hji12
            by_cases c13 : 0 ≤ (ji12)
            · rw [if_pos c13] at H
              have c13b0 := eq_true c13
              have c13b1 : decide (0 ≤ (ji12)) = true := decide_eq_true c13
              clear c13
              obtain ⟨ji14, hji14⟩ : ∃ j_ : Int, (shr .u8 (rd l0 (ji8)) (ji12)) = j_ := ⟨_, rfl⟩
              replace H : (if (ji14) = 0 then (leb_S.j0 k t109 t110 t111 (rd l0 (ji8)) false) else (leb_S.j0 k t109 t110 t111 (rd l0 (ji8)) ((ji14) != (shr .u8 127 (ji12))))) = some (r1, r2, r3) := by first | (rw [hji14] at H; exact H) | (simp only [hji14] at H ⊢; exact H)
              (try rw [hji14] at A4)
              (try rw [hji14] at A6)
              have hji14_ : ((rd l0 (ji8)) / 2 ^ min (ji12).toNat 8) = ji14 := hji14
              have hji14z : (ji12) ≤ 8 → ((rd l0 (ji8)) / 2 ^ (ji12).toNat) = ji14 := shr_small hji14
              have HC15 := Aside0.mk H
              clear H
              go_enter Try.func11, Try.ntmps11
              go_upto_region 10 with (first | ((with_reducible refine gate_callee (f := 17) rfl ?_); refine goesL_ (some 19) rfl rfl Try.func17 (by kernel_rfl) rfl #[.slice A0 l0.length c0, .int .i64 a1, .int .i64 a2] rfl (by (try simp only [List.map_toArray, List.map_cons, List.map_nil]); first | done | rfl | (simp only [List.length_drop, List.length_take]; rfl)) ?_; (with_reducible refine (leb_may.calls _ _ l0 a1 a2 true _ ?side1 ?side2 A4.out).mono ?_); (case side1 => repeat (first | exact HR0.out | (with_reducible refine Kd.C_alloc ?_ _) | (with_reducible refine Kd.C_drewN ?_ _) | (with_reducible refine Kd.C_drew ?_))); (case side2 => exact HC0.out); rintro e w' ⟨rfl, ⟨nd, rfl⟩⟩; refine ⟨_, rfl, ?_⟩) | ((with_reducible refine gate_callee (f := 18) rfl ?_); refine goesL_ (some 26) rfl rfl Try.func18 (by kernel_rfl) rfl #[.slice A0 l0.length c0, .int .i64 a1, .int .i64 a2] rfl (by (try simp only [List.map_toArray, List.map_cons, List.map_nil]); first | done | rfl | (simp only [List.length_drop, List.length_take]; rfl)) ?_; (with_reducible refine (leb_raw.calls k _ _ l0 a1 a2 t109 t110 t111 true _ ?side1 ?side2 A6.out).mono ?_); (case side1 => repeat (first | exact HR0.out | (with_reducible refine Kd.C_alloc ?_ _) | (with_reducible refine Kd.C_drewN ?_ _) | (with_reducible refine Kd.C_drew ?_))); (case side2 => exact HC0.out); rintro e w' ⟨rfl, ⟨nd, rfl⟩⟩; refine ⟨_, rfl, ?_⟩; have p113 : 0 ≤ ((ji8) : Int) := of_decide_eq_true (by first | (with_reducible assumption) | assumption); have q113 : (ji8) < (l0.length : Int) := of_decide_eq_true (by first | (with_reducible assumption) | assumption); obtain ⟨ad113, e113, hx113_0⟩ := Kd.at_int HR0.out (ji8) p113 q113; cases e113; replace p113 := eq_true p113; replace q113 := eq_true q113))
              (try simp only [Act.put, List.setIfInBounds_toArray, List.set_cons_zero, List.set_cons_succ])
              go_cut [58] (fun v58 wc => ∃ (kq : Nat) (x58_14 : Bool), v58 = .bool x58_14 ∧ Aside0 (leb_S.j0 kq t109 t110 t111 (rd l0 (ji8)) x58_14 = some (r1, r2, r3)) ∧ Aside0 (kq ≤ k) ∧ Drawn0 w wc)
              case first =>
                have H := HC15.out
                clear HC15
                by_cases c16 : (ji14) = 0
                · rw [if_pos c16] at H
                  have c16b0 : ((ji14) == 0) = true := beq_iff_eq.mpr c16
                  have c16b1 : ((ji14) != 0) = false := bne_eq_false_iff_eq.mpr c16
                  clear c16
                  (first | rw [c16b0] | (simp only [i64_w, i32_w]; rw [c16b0]) | skip)
                  have H' := Aside0.mk H
                  clear H
                  go_wp2
                  go_meet
                  case rel => exact ⟨_, (false), (by first | rfl | (simp; done) | (simp [*]; done)), H', ⟨by first | omega | exact Nat.le_refl _⟩, by repeat (first | exact Drawn0.refl _ | apply Drawn0.step)⟩
                · rw [if_neg c16] at H
                  have c16b0 : ((ji14) == 0) = false := beq_eq_false_iff_ne.mpr c16
                  have c16b1 : ((ji14) != 0) = true := bne_iff_ne.mpr c16
                  (first | rw [c16b0] | (simp only [i64_w, i32_w]; rw [c16b0]) | skip)
                  have c17b0 := eq_true (of_decide_eq_true (by first | (with_reducible assumption) | assumption) : 0 ≤ (ji12))
                  obtain ⟨ji18, hji18⟩ : ∃ j_ : Int, (shr .u8 127 (ji12)) = j_ := ⟨_, rfl⟩
                  replace H : (leb_S.j0 k t109 t110 t111 (rd l0 (ji8)) ((ji14) != (ji18))) = some (r1, r2, r3) := by first | (rw [hji18] at H; exact H) | (simp only [hji18] at H ⊢; exact H)
                  have hji18_ : (127 / 2 ^ min (ji12).toNat 8) = ji18 := hji18
                  have hji18z : (ji12) ≤ 8 → (127 / 2 ^ (ji12).toNat) = ji18 := shr_small hji18
                  have H' := Aside0.mk H
                  clear H
                  go_wp2
                  go_meet
                  case rel => exact ⟨_, (((ji14) != (ji18))), (by first | rfl | (simp; done) | (simp only [← hji14, ← hji18] <;> (first | rfl | simp)) | (simp [*]; done)), H', ⟨by first | omega | exact Nat.le_refl _⟩, by repeat (first | exact Drawn0.refl _ | apply Drawn0.step)⟩
              case rest =>
                clear HC15
                try clear c1
                try clear p1
                try clear q1
                try clear hx1
                try clear p2
                try clear c5
                try clear p6
                try clear c7
                try clear c9
                try clear c9b0
                try clear c10
                try clear c10b0
                try clear c11
                try clear c11b0
                try clear p11
                try clear q11
                try clear hx11
                try clear c13
                try clear c13b0
                try clear c13b1
                try clear c16
                try clear c16b0
                try clear c16b1
                try clear c17
                try clear c17b0
                try clear c18
                try clear hx113_0
                try clear p113
                try clear q113
                obtain ⟨kq, x58_14, rfl, HA, HJ14, ⟨mc14, rfl⟩⟩ := hcut
                cases kq with
                | zero => exact absurd HA.out (by simp [leb_S.j0])
                | succ kj14 =>
                  have H := HA.out
                  clear HA
                  simp only [leb_S.j0] at H
                  by_cases c19 : x58_14 = true
                  · subst c19
                    have H1 : (some (0, 0, some 2)) = some (r1, r2, r3) := by rw [if_pos rfl] at H; exact H
                    clear H
                    have H := H1
                    clear H1
                    simp only [Option.some.injEq, Prod.mk.injEq] at H
                    obtain ⟨rfl, rfl, rfl⟩ := H
                    go_wp2
                    go_ret3
                    exact ⟨by first | rfl | (simp; done) | (simp only [← hji8, ← hji12, ← hji14] <;> (first | rfl | simp)) | (simp [*]; done), by repeat (first | exact Drawn0.refl _ | apply Drawn0.step)⟩
                  · replace c19 := Bool.eq_false_iff.mpr c19
                    subst c19
                    have H1 : (if t110 < 64 then (if (Go.bits .and .u8 (rd l0 (ji8)) 64) = 0 then (some (wrap64 (t109), t111, none)) else (if 0 ≤ t110 then (some (wrap64 (Go.bits .or .u64 t109 (shl .u64 18446744073709551615 t110)), t111, none)) else (none))) else (some (wrap64 (t109), t111, none))) = some (r1, r2, r3) := by rw [if_neg (show ¬ (false = true) by decide)] at H; exact H
                    clear H
                    have H := H1
                    clear H1
                    by_cases c20 : t110 < 64
                    · rw [if_pos c20] at H
                      have c20b0 : decide (t110 < 64) = true := decide_eq_true c20
                      clear c20
                      by_cases c21 : (Go.bits .and .u8 (rd l0 (ji8)) 64) = 0
                      · rw [if_pos c21] at H
                        have c21b0 : ((Go.bits .and .u8 (rd l0 (ji8)) 64) == 0) = true := beq_iff_eq.mpr c21
                        have c21b1 : ((Go.bits .and .u8 (rd l0 (ji8)) 64) != 0) = false := bne_eq_false_iff_eq.mpr c21
                        clear c21
                        simp only [Option.some.injEq, Prod.mk.injEq] at H
                        obtain ⟨rfl, rfl, rfl⟩ := H
                        go_wp2
                        go_ret3
                        exact ⟨by first | rfl | (simp; done) | (simp only [← hji8, ← hji12, ← hji14] <;> (first | rfl | simp)) | (simp [*]; done), by repeat (first | exact Drawn0.refl _ | apply Drawn0.step)⟩
                      · rw [if_neg c21] at H
                        have c21b0 : ((Go.bits .and .u8 (rd l0 (ji8)) 64) == 0) = false := beq_eq_false_iff_ne.mpr c21
                        have c21b1 : ((Go.bits .and .u8 (rd l0 (ji8)) 64) != 0) = true := bne_iff_ne.mpr c21
                        by_cases c22 : 0 ≤ t110
                        · rw [if_pos c22] at H
                          have c22b0 := eq_true c22
                          have c22b1 : decide (0 ≤ t110) = true := decide_eq_true c22
                          clear c22
                          obtain ⟨ji23, hji23⟩ : ∃ j_ : Int, (shl .u64 18446744073709551615 t110) = j_ := ⟨_, rfl⟩
                          replace H : (some (wrap64 (Go.bits .or .u64 t109 (ji23)), t111, none)) = some (r1, r2, r3) := by first | (rw [hji23] at H; exact H) | (simp only [hji23] at H ⊢; exact H)
                          have hji23_ : (IntKind.u64.wrap (18446744073709551615 * 2 ^ min t110.toNat 64)) = ji23 := hji23
                          have hji23z : t110 ≤ 64 → (IntKind.u64.wrap (18446744073709551615 * 2 ^ t110.toNat)) = ji23 := shl_small hji23
                          simp only [Option.some.injEq, Prod.mk.injEq] at H
                          obtain ⟨rfl, rfl, rfl⟩ := H
                          go_wp2
                          go_ret3
                          exact ⟨by first | rfl | (simp; done) | (simp only [← hji8, ← hji12, ← hji14, ← hji23] <;> (first | rfl | simp)) | (simp [*]; done), by repeat (first | exact Drawn0.refl _ | apply Drawn0.step)⟩
                        · rw [if_neg c22] at H
                          exact absurd H (by simp)
                    · rw [if_neg c20] at H
                      have c20b0 : decide (t110 < 64) = false := decide_eq_false c20
                      clear c20
                      simp only [Option.some.injEq, Prod.mk.injEq] at H
                      obtain ⟨rfl, rfl, rfl⟩ := H
                      go_wp2
                      go_ret3
                      exact ⟨by first | rfl | (simp; done) | (simp only [← hji8, ← hji12, ← hji14] <;> (first | rfl | simp)) | (simp [*]; done), by repeat (first | exact Drawn0.refl _ | apply Drawn0.step)⟩
            · rw [if_neg c13] at H
              exact absurd H (by simp)
          · rw [if_neg c11] at H
            have c11b0 : decide (a2 < t110) = false := decide_eq_false c11
            clear c11
            by_cases c24 : t110 < 64
            · rw [if_pos c24] at H
              have c24b0 : decide (t110 < 64) = true := decide_eq_true c24
              clear c24
              by_cases c25 : (Go.bits .and .u8 (rd l0 (ji8)) 64) = 0
              · rw [if_pos c25] at H
                have c25b0 : ((Go.bits .and .u8 (rd l0 (ji8)) 64) == 0) = true := beq_iff_eq.mpr c25
                have c25b1 : ((Go.bits .and .u8 (rd l0 (ji8)) 64) != 0) = false := bne_eq_false_iff_eq.mpr c25
                clear c25
                simp only [Option.some.injEq, Prod.mk.injEq] at H
                obtain ⟨rfl, rfl, rfl⟩ := H
                go_enter Try.func11, Try.ntmps11
                go_wp2_with (first | ((with_reducible refine gate_callee (f := 17) rfl ?_); refine goesL_ (some 19) rfl rfl Try.func17 (by kernel_rfl) rfl #[.slice A0 l0.length c0, .int .i64 a1, .int .i64 a2] rfl (by (try simp only [List.map_toArray, List.map_cons, List.map_nil]); first | done | rfl | (simp only [List.length_drop, List.length_take]; rfl)) ?_; (with_reducible refine (leb_may.calls _ _ l0 a1 a2 true _ ?side1 ?side2 A4.out).mono ?_); (case side1 => repeat (first | exact HR0.out | (with_reducible refine Kd.C_alloc ?_ _) | (with_reducible refine Kd.C_drewN ?_ _) | (with_reducible refine Kd.C_drew ?_))); (case side2 => exact HC0.out); rintro e w' ⟨rfl, ⟨nd, rfl⟩⟩; refine ⟨_, rfl, ?_⟩) | ((with_reducible refine gate_callee (f := 18) rfl ?_); refine goesL_ (some 26) rfl rfl Try.func18 (by kernel_rfl) rfl #[.slice A0 l0.length c0, .int .i64 a1, .int .i64 a2] rfl (by (try simp only [List.map_toArray, List.map_cons, List.map_nil]); first | done | rfl | (simp only [List.length_drop, List.length_take]; rfl)) ?_; (with_reducible refine (leb_raw.calls k _ _ l0 a1 a2 t109 t110 t111 true _ ?side1 ?side2 A6.out).mono ?_); (case side1 => repeat (first | exact HR0.out | (with_reducible refine Kd.C_alloc ?_ _) | (with_reducible refine Kd.C_drewN ?_ _) | (with_reducible refine Kd.C_drew ?_))); (case side2 => exact HC0.out); rintro e w' ⟨rfl, ⟨nd, rfl⟩⟩; refine ⟨_, rfl, ?_⟩; have p113 : 0 ≤ ((ji8) : Int) := of_decide_eq_true (by first | (with_reducible assumption) | assumption); have q113 : (ji8) < (l0.length : Int) := of_decide_eq_true (by first | (with_reducible assumption) | assumption); obtain ⟨ad113, e113, hx113_0⟩ := Kd.at_int HR0.out (ji8) p113 q113; cases e113; replace p113 := eq_true p113; replace q113 := eq_true q113))
                go_ret3
                exact ⟨by first | rfl | (simp; done) | (simp only [← hji8] <;> (first | rfl | simp)) | (simp [*]; done), by repeat (first | exact Drawn0.refl _ | apply Drawn0.step)⟩
              · rw [if_neg c25] at H
                have c25b0 : ((Go.bits .and .u8 (rd l0 (ji8)) 64) == 0) = false := beq_eq_false_iff_ne.mpr c25
                have c25b1 : ((Go.bits .and .u8 (rd l0 (ji8)) 64) != 0) = true := bne_iff_ne.mpr c25
                by_cases c26 : 0 ≤ t110
                · rw [if_pos c26] at H
                  have c26b0 := eq_true c26
                  have c26b1 : decide (0 ≤ t110) = true := decide_eq_true c26
                  clear c26
                  obtain ⟨ji27, hji27⟩ : ∃ j_ : Int, (shl .u64 18446744073709551615 t110) = j_ := ⟨_, rfl⟩
                  replace H : (some (wrap64 (Go.bits .or .u64 t109 (ji27)), t111, none)) = some (r1, r2, r3) := by first | (rw [hji27] at H; exact H) | (simp only [hji27] at H ⊢; exact H)
                  (try rw [hji27] at A4)
                  (try rw [hji27] at A6)
                  have hji27_ : (IntKind.u64.wrap (18446744073709551615 * 2 ^ min t110.toNat 64)) = ji27 := hji27
                  have hji27z : t110 ≤ 64 → (IntKind.u64.wrap (18446744073709551615 * 2 ^ t110.toNat)) = ji27 := shl_small hji27
                  simp only [Option.some.injEq, Prod.mk.injEq] at H
                  obtain ⟨rfl, rfl, rfl⟩ := H
                  go_enter Try.func11, Try.ntmps11
                  go_wp2_with (first | ((with_reducible refine gate_callee (f := 17) rfl ?_); refine goesL_ (some 19) rfl rfl Try.func17 (by kernel_rfl) rfl #[.slice A0 l0.length c0, .int .i64 a1, .int .i64 a2] rfl (by (try simp only [List.map_toArray, List.map_cons, List.map_nil]); first | done | rfl | (simp only [List.length_drop, List.length_take]; rfl)) ?_; (with_reducible refine (leb_may.calls _ _ l0 a1 a2 true _ ?side1 ?side2 A4.out).mono ?_); (case side1 => repeat (first | exact HR0.out | (with_reducible refine Kd.C_alloc ?_ _) | (with_reducible refine Kd.C_drewN ?_ _) | (with_reducible refine Kd.C_drew ?_))); (case side2 => exact HC0.out); rintro e w' ⟨rfl, ⟨nd, rfl⟩⟩; refine ⟨_, rfl, ?_⟩) | ((with_reducible refine gate_callee (f := 18) rfl ?_); refine goesL_ (some 26) rfl rfl Try.func18 (by kernel_rfl) rfl #[.slice A0 l0.length c0, .int .i64 a1, .int .i64 a2] rfl (by (try simp only [List.map_toArray, List.map_cons, List.map_nil]); first | done | rfl | (simp only [List.length_drop, List.length_take]; rfl)) ?_; (with_reducible refine (leb_raw.calls k _ _ l0 a1 a2 t109 t110 t111 true _ ?side1 ?side2 A6.out).mono ?_); (case side1 => repeat (first | exact HR0.out | (with_reducible refine Kd.C_alloc ?_ _) | (with_reducible refine Kd.C_drewN ?_ _) | (with_reducible refine Kd.C_drew ?_))); (case side2 => exact HC0.out); rintro e w' ⟨rfl, ⟨nd, rfl⟩⟩; refine ⟨_, rfl, ?_⟩; have p113 : 0 ≤ ((ji8) : Int) := of_decide_eq_true (by first | (with_reducible assumption) | assumption); have q113 : (ji8) < (l0.length : Int) := of_decide_eq_true (by first | (with_reducible assumption) | assumption); obtain ⟨ad113, e113, hx113_0⟩ := Kd.at_int HR0.out (ji8) p113 q113; cases e113; replace p113 := eq_true p113; replace q113 := eq_true q113))
                  go_ret3
                  exact ⟨by first | rfl | (simp; done) | (simp only [← hji8, ← hji27] <;> (first | rfl | simp)) | (simp [*]; done), by repeat (first | exact Drawn0.refl _ | apply Drawn0.step)⟩
                · rw [if_neg c26] at H
                  exact absurd H (by simp)
            · rw [if_neg c24] at H
              have c24b0 : decide (t110 < 64) = false := decide_eq_false c24
              clear c24
              simp only [Option.some.injEq, Prod.mk.injEq] at H
              obtain ⟨rfl, rfl, rfl⟩ := H
              go_enter Try.func11, Try.ntmps11
              go_wp2_with (first | ((with_reducible refine gate_callee (f := 17) rfl ?_); refine goesL_ (some 19) rfl rfl Try.func17 (by kernel_rfl) rfl #[.slice A0 l0.length c0, .int .i64 a1, .int .i64 a2] rfl (by (try simp only [List.map_toArray, List.map_cons, List.map_nil]); first | done | rfl | (simp only [List.length_drop, List.length_take]; rfl)) ?_; (with_reducible refine (leb_may.calls _ _ l0 a1 a2 true _ ?side1 ?side2 A4.out).mono ?_); (case side1 => repeat (first | exact HR0.out | (with_reducible refine Kd.C_alloc ?_ _) | (with_reducible refine Kd.C_drewN ?_ _) | (with_reducible refine Kd.C_drew ?_))); (case side2 => exact HC0.out); rintro e w' ⟨rfl, ⟨nd, rfl⟩⟩; refine ⟨_, rfl, ?_⟩) | ((with_reducible refine gate_callee (f := 18) rfl ?_); refine goesL_ (some 26) rfl rfl Try.func18 (by kernel_rfl) rfl #[.slice A0 l0.length c0, .int .i64 a1, .int .i64 a2] rfl (by (try simp only [List.map_toArray, List.map_cons, List.map_nil]); first | done | rfl | (simp only [List.length_drop, List.length_take]; rfl)) ?_; (with_reducible refine (leb_raw.calls k _ _ l0 a1 a2 t109 t110 t111 true _ ?side1 ?side2 A6.out).mono ?_); (case side1 => repeat (first | exact HR0.out | (with_reducible refine Kd.C_alloc ?_ _) | (with_reducible refine Kd.C_drewN ?_ _) | (with_reducible refine Kd.C_drew ?_))); (case side2 => exact HC0.out); rintro e w' ⟨rfl, ⟨nd, rfl⟩⟩; refine ⟨_, rfl, ?_⟩; have p113 : 0 ≤ ((ji8) : Int) := of_decide_eq_true (by first | (with_reducible assumption) | assumption); have q113 : (ji8) < (l0.length : Int) := of_decide_eq_true (by first | (with_reducible assumption) | assumption); obtain ⟨ad113, e113, hx113_0⟩ := Kd.at_int HR0.out (ji8) p113 q113; cases e113; replace p113 := eq_true p113; replace q113 := eq_true q113))
              go_ret3
              exact ⟨by first | rfl | (simp; done) | (simp only [← hji8] <;> (first | rfl | simp)) | (simp [*]; done), by repeat (first | exact Drawn0.refl _ | apply Drawn0.step)⟩
        · rw [if_neg c10] at H
          exact absurd H (by simp)
      · rw [if_neg c9] at H
        exact absurd H (by simp)
    · replace c7 := Bool.eq_false_iff.mpr c7
      subst c7
      have H1 : (some (0, 0, some 2)) = some (r1, r2, r3) := by rw [if_neg (show ¬ (false = true) by decide)] at H; exact H
      clear H
      have H := H1
      clear H1
      simp only [Option.some.injEq, Prod.mk.injEq] at H
      obtain ⟨rfl, rfl, rfl⟩ := H
      go_enter Try.func11, Try.ntmps11
      go_wp2_with (first | ((with_reducible refine gate_callee (f := 17) rfl ?_); refine goesL_ (some 19) rfl rfl Try.func17 (by kernel_rfl) rfl #[.slice A0 l0.length c0, .int .i64 a1, .int .i64 a2] rfl (by (try simp only [List.map_toArray, List.map_cons, List.map_nil]); first | done | rfl | (simp only [List.length_drop, List.length_take]; rfl)) ?_; (with_reducible refine (leb_may.calls _ _ l0 a1 a2 true _ ?side1 ?side2 A4.out).mono ?_); (case side1 => repeat (first | exact HR0.out | (with_reducible refine Kd.C_alloc ?_ _) | (with_reducible refine Kd.C_drewN ?_ _) | (with_reducible refine Kd.C_drew ?_))); (case side2 => exact HC0.out); rintro e w' ⟨rfl, ⟨nd, rfl⟩⟩; refine ⟨_, rfl, ?_⟩) | ((with_reducible refine gate_callee (f := 18) rfl ?_); refine goesL_ (some 26) rfl rfl Try.func18 (by kernel_rfl) rfl #[.slice A0 l0.length c0, .int .i64 a1, .int .i64 a2] rfl (by (try simp only [List.map_toArray, List.map_cons, List.map_nil]); first | done | rfl | (simp only [List.length_drop, List.length_take]; rfl)) ?_; (with_reducible refine (leb_raw.calls k _ _ l0 a1 a2 t109 t110 t111 false _ ?side1 ?side2 A6.out).mono ?_); (case side1 => repeat (first | exact HR0.out | (with_reducible refine Kd.C_alloc ?_ _) | (with_reducible refine Kd.C_drewN ?_ _) | (with_reducible refine Kd.C_drew ?_))); (case side2 => exact HC0.out); rintro e w' ⟨rfl, ⟨nd, rfl⟩⟩; refine ⟨_, rfl, ?_⟩))
      go_ret3
      exact ⟨by first | rfl | (simp; done) | (simp [*]; done), by repeat (first | exact Drawn0.refl _ | apply Drawn0.step)⟩
  · replace c5 := Bool.eq_false_iff.mpr c5
    subst c5
    have H1 : (some (0, 0, some 1)) = some (r1, r2, r3) := by rw [if_neg (show ¬ (false = true) by decide)] at H; exact H
    clear H
    have H := H1
    clear H1
    simp only [Option.some.injEq, Prod.mk.injEq] at H
    obtain ⟨rfl, rfl, rfl⟩ := H
    go_enter Try.func11, Try.ntmps11
    go_wp2_with (first | ((with_reducible refine gate_callee (f := 17) rfl ?_); refine goesL_ (some 19) rfl rfl Try.func17 (by kernel_rfl) rfl #[.slice A0 l0.length c0, .int .i64 a1, .int .i64 a2] rfl (by (try simp only [List.map_toArray, List.map_cons, List.map_nil]); first | done | rfl | (simp only [List.length_drop, List.length_take]; rfl)) ?_; (with_reducible refine (leb_may.calls _ _ l0 a1 a2 false _ ?side1 ?side2 A4.out).mono ?_); (case side1 => repeat (first | exact HR0.out | (with_reducible refine Kd.C_alloc ?_ _) | (with_reducible refine Kd.C_drewN ?_ _) | (with_reducible refine Kd.C_drew ?_))); (case side2 => exact HC0.out); rintro e w' ⟨rfl, ⟨nd, rfl⟩⟩; refine ⟨_, rfl, ?_⟩))
    go_ret3
    exact ⟨by first | rfl | (simp; done) | (simp [*]; done), by repeat (first | exact Drawn0.refl _ | apply Drawn0.step)⟩

/-! ### leb_PutS: function 14 -/
def leb_PutS.l0 : Nat → Int → List Int → Option (List Int)
  | 0, _, _ => none
  | k + 1, x0, x3 => if x0 < (-64) then (if x3.length < 140737488355328 then (leb_PutS.l0 k (x0 / 128) (x3 ++ [Go.bits .or .u8 ((x0) % 256) 128])) else (none)) else (if x0 ≥ 64 then (if x3.length < 140737488355328 then (leb_PutS.l0 k (x0 / 128) (x3 ++ [Go.bits .or .u8 ((x0) % 256) 128])) else (none)) else (if x3.length < 140737488355328 then (some (x3 ++ [Go.bits .and .u8 ((x0) % 256) 127])) else (none)))
def leb_PutS.f (k : Nat) (a0 : Int) : Option (List Int) := leb_PutS.l0 k a0 ([] : List Int)
theorem leb_PutS.mono_l : ∀ k, (∀ y0 y1, LeO (leb_PutS.l0 k y0 y1) (leb_PutS.l0 (k + 1) y0 y1))
  | 0 => fun _ _ r h => by simp [leb_PutS.l0] at h
  | k + 1 => by
    have ih0 := leb_PutS.mono_l k
    · intro y0 y1
      unfold leb_PutS.l0
      repeat' first
      | (with_reducible exact ih0 _ _)
      | (with_reducible exact LeO.refl _)
      | (with_reducible exact LeO.none _)
      | (with_reducible refine LeO.ite ?_ ?_)
      | (with_reducible refine LeO.bind ?_ (fun _ => ?_))
      | exact ih0 _ _
      | exact LeO.none _
      | refine LeO.ite ?_ ?_
      | refine LeO.bind ?_ (fun _ => ?_)
theorem leb_PutS.mono : ∀ a0 k, LeO (leb_PutS.f k a0) (leb_PutS.f (k + 1) a0) := by
  intro a0 k
  have ih0 := leb_PutS.mono_l k
  unfold leb_PutS.f
  repeat' first
      | (with_reducible exact ih0 _ _)
      | (with_reducible exact LeO.refl _)
      | (with_reducible exact LeO.none _)
      | (with_reducible refine LeO.ite ?_ ?_)
      | (with_reducible refine LeO.bind ?_ (fun _ => ?_))
      | exact ih0 _ _
      | exact LeO.none _
      | refine LeO.ite ?_ ?_
      | refine LeO.bind ?_ (fun _ => ?_)
set_option maxHeartbeats 8000000 in
set_option maxRecDepth 100000 in
theorem leb_PutS.calls (k : Nat) (a0 : Int) (r : List Int) (w : World) (h : leb_PutS.f k a0 = some r) :
    Calls Try.prog 14 #[.int .i64 a0] w fun e w' => ∃ v0_ : Value, e = .returned (v0_) ∧ Kd.R (Kd.int .u8) 5 w' w.heap.size (fun _ => True) v0_ r ∧ Below w.heap.size w w' := by
  have HB := Aside0.mk (Below.refl w.heap.size w)
  have H : (leb_PutS.l0 k a0 ([] : List Int)) = some r := h
  clear h
  have H' := Aside0.mk H
  clear H
  go_enter Try.func14, Try.ntmps14
  go_wp2
  go_loopg [0, 3] k (fun kq v0 v3 w' => ∃ (x0_1 : Int) (x3_1 : List Int), v0 = .int .i64 x0_1 ∧ Aside0 (leb_PutS.l0 kq x0_1 x3_1 = some r) ∧ Aside0 (kq ≤ k) ∧ Aside0 (Kd.R (Kd.int .u8) 5 w' w.heap.size (fun _ => True) v3 x3_1) ∧ Aside0 (Below w.heap.size w w'))
  case atStart => exact ⟨(a0), (([] : List Int)), (by first | rfl | (simp; done) | (simp [*]; done)), H', ⟨Nat.le_refl _⟩, ⟨by first | exact Kd.R_nil _ _ _ _ _ | exact Kd.N_nil _ _ _ _ _ | exact Kd.V_nil _ _ _ _ _ | exact Kd.Q_nil _ _ _ _ _ | exact Kd.S_nil _ _ _ _ _⟩, ⟨by repeat (first | (with_reducible first | exact HB.out | apply below_alloc | apply pw_below_drewN | apply below_drew1) | exact HB.out)⟩⟩
  case round =>
    clear H'
    try clear c1
    obtain ⟨x0_1, x3_1, rfl, HA, HK1, HO_3, HB⟩ := hrel
    cases gk with
    | zero => exact absurd HA.out (by simp [leb_PutS.l0])
    | succ k1 =>
      have H := HA.out
      clear HA
      simp only [leb_PutS.l0] at H
      by_cases c2 : x0_1 < (-64)
      · rw [if_pos c2] at H
        have c2b0 : decide (x0_1 < (-64)) = true := decide_eq_true c2
        clear c2
        by_cases c3 : x3_1.length < 140737488355328
        · rw [if_pos c3] at H
          have LMc3 := Aside0.mk c3
          clear c3
          obtain ⟨y114, hy114⟩ : ∃ y_ : List Int, y_ = (x3_1 ++ [Go.bits .or .u8 ((x0_1) % 256) 128]) := ⟨_, rfl⟩
          replace H : (leb_PutS.l0 k1 (x0_1 / 128) y114) = some r := by first | (rw [hy114]; with_reducible exact H) | (have H2_ := (Option.bind_some _ _).symm.trans H; rw [hy114]; with_reducible exact H2_) | (have H2_ := (Option.bind_some _ _).symm.trans H; with_reducible exact H2_) | with_reducible exact H | (rw [hy114]; exact H) | exact H
          have Ny114 := Aside0.mk hy114
          clear hy114
          have H' := Aside0.mk H
          clear H
          go_wp2_with (first | ((with_reducible refine gate_builtin (b := .append) (xs := #[.tmp 10, .tmp 14]) rfl ?_); at_builtin; refine Kd.R_append (Kd.int .u8) (w0 := w) w.heap.size rfl (.tmp 10) (.tmp 14) 22 5 (.int .u8 0) 1 rfl Try.underlying22 info5 rfl (by decide) (by omega) u3 x3_1 (Go.bits .or .u8 ((x0_1) % 256) 128) [.int .u8 (Go.bits .or .u8 ((x0_1) % 256) 128)] (fun _ => True) (fun _ => False) rfl rfl ?aP (fun _ hk => hk.elim) ?aF ?aO ?aB ?aS ?aL ?_; (case aP => exact rfl); (case aB => exact (by repeat (first | (with_reducible first | exact HB.out | apply below_alloc | apply pw_below_drewN | apply below_drew1) | exact HB.out))); (case aF => exact (fun _ _ => trivial)); (case aO => exact (by (with_reducible repeat (first | apply Kd.R_alloc | apply Kd.R_drewN | apply Kd.R_drew)); exact HO_3.out)); (case aS => exact (below_size (by repeat (first | (with_reducible first | exact HB.out | apply below_alloc | apply pw_below_drewN | apply below_drew1) | exact HB.out)))); (case aL => have := LMc3.out; omega); intro v115 w4 ho hb hg hat; rw [← Ny114.out] at ho; have n0_ := Aside0.mk (hb); have n1_ := Aside0.mk (ho); clear HB; clear HO_3; have HB := n0_; have HO116 := n1_; clear n0_ n1_; clear ho hb hg hat))
          go_roundg k1
          case measure => have := HK1.out; omega
          case rel => exact ⟨(x0_1 / 128), (y114), (by first | rfl | (simp; done) | (simp [*]; done)), H', ⟨by have := HK1.out; omega⟩, ⟨by (with_reducible repeat (first | apply Kd.R_alloc | apply Kd.R_drewN | apply Kd.R_drew)); exact HO116.out⟩, ⟨by repeat (first | (with_reducible first | exact HB.out | apply below_alloc | apply pw_below_drewN | apply below_drew1) | exact HB.out)⟩⟩
        · rw [if_neg c3] at H
          exact absurd H (by simp)
      · rw [if_neg c2] at H
        have c2b0 : decide (x0_1 < (-64)) = false := decide_eq_false c2
        clear c2
        by_cases c5 : x0_1 ≥ 64
        · rw [if_pos c5] at H
          have c5b0 : decide (64 ≤ x0_1) = true := decide_eq_true c5
          clear c5
          by_cases c6 : x3_1.length < 140737488355328
          · rw [if_pos c6] at H
            have LMc6 := Aside0.mk c6
            clear c6
            obtain ⟨y117, hy117⟩ : ∃ y_ : List Int, y_ = (x3_1 ++ [Go.bits .or .u8 ((x0_1) % 256) 128]) := ⟨_, rfl⟩
            replace H : (leb_PutS.l0 k1 (x0_1 / 128) y117) = some r := by first | (rw [hy117]; with_reducible exact H) | (have H2_ := (Option.bind_some _ _).symm.trans H; rw [hy117]; with_reducible exact H2_) | (have H2_ := (Option.bind_some _ _).symm.trans H; with_reducible exact H2_) | with_reducible exact H | (rw [hy117]; exact H) | exact H
            have Ny117 := Aside0.mk hy117
            clear hy117
            have H' := Aside0.mk H
            clear H
            go_wp2_with (first | ((with_reducible refine gate_builtin (b := .append) (xs := #[.tmp 10, .tmp 14]) rfl ?_); at_builtin; refine Kd.R_append (Kd.int .u8) (w0 := w) w.heap.size rfl (.tmp 10) (.tmp 14) 22 5 (.int .u8 0) 1 rfl Try.underlying22 info5 rfl (by decide) (by omega) u3 x3_1 (Go.bits .or .u8 ((x0_1) % 256) 128) [.int .u8 (Go.bits .or .u8 ((x0_1) % 256) 128)] (fun _ => True) (fun _ => False) rfl rfl ?aP (fun _ hk => hk.elim) ?aF ?aO ?aB ?aS ?aL ?_; (case aP => exact rfl); (case aB => exact (by repeat (first | (with_reducible first | exact HB.out | apply below_alloc | apply pw_below_drewN | apply below_drew1) | exact HB.out))); (case aF => exact (fun _ _ => trivial)); (case aO => exact (by (with_reducible repeat (first | apply Kd.R_alloc | apply Kd.R_drewN | apply Kd.R_drew)); exact HO_3.out)); (case aS => exact (below_size (by repeat (first | (with_reducible first | exact HB.out | apply below_alloc | apply pw_below_drewN | apply below_drew1) | exact HB.out)))); (case aL => have := LMc6.out; omega); intro v118 w7 ho hb hg hat; rw [← Ny117.out] at ho; have n0_ := Aside0.mk (hb); have n1_ := Aside0.mk (ho); clear HB; clear HO_3; have HB := n0_; have HO119 := n1_; clear n0_ n1_; clear ho hb hg hat))
            go_roundg k1
            case measure => have := HK1.out; omega
            case rel => exact ⟨(x0_1 / 128), (y117), (by first | rfl | (simp; done) | (simp [*]; done)), H', ⟨by have := HK1.out; omega⟩, ⟨by (with_reducible repeat (first | apply Kd.R_alloc | apply Kd.R_drewN | apply Kd.R_drew)); exact HO119.out⟩, ⟨by repeat (first | (with_reducible first | exact HB.out | apply below_alloc | apply pw_below_drewN | apply below_drew1) | exact HB.out)⟩⟩
          · rw [if_neg c6] at H
            exact absurd H (by simp)
        · rw [if_neg c5] at H
          have c5b0 : decide (64 ≤ x0_1) = false := decide_eq_false c5
          clear c5
          by_cases c8 : x3_1.length < 140737488355328
          · rw [if_pos c8] at H
            have LMc8 := Aside0.mk c8
            clear c8
            obtain ⟨y120, hy120⟩ : ∃ y_ : List Int, y_ = (x3_1 ++ [Go.bits .and .u8 ((x0_1) % 256) 127]) := ⟨_, rfl⟩
            replace H : (some y120) = some r := by first | (rw [hy120]; with_reducible exact H) | (have H2_ := (Option.bind_some _ _).symm.trans H; rw [hy120]; with_reducible exact H2_) | (have H2_ := (Option.bind_some _ _).symm.trans H; with_reducible exact H2_) | with_reducible exact H | (rw [hy120]; exact H) | exact H
            have Ny120 := Aside0.mk hy120
            clear hy120
            obtain rfl := Option.some.inj H
            go_wp2_with (first | ((with_reducible refine gate_builtin (b := .append) (xs := #[.tmp 18, .tmp 22]) rfl ?_); at_builtin; refine Kd.R_append (Kd.int .u8) (w0 := w) w.heap.size rfl (.tmp 18) (.tmp 22) 22 5 (.int .u8 0) 1 rfl Try.underlying22 info5 rfl (by decide) (by omega) u3 x3_1 (Go.bits .and .u8 ((x0_1) % 256) 127) [.int .u8 (Go.bits .and .u8 ((x0_1) % 256) 127)] (fun _ => True) (fun _ => False) rfl rfl ?aP (fun _ hk => hk.elim) ?aF ?aO ?aB ?aS ?aL ?_; (case aP => exact rfl); (case aB => exact (by repeat (first | (with_reducible first | exact HB.out | apply below_alloc | apply pw_below_drewN | apply below_drew1) | exact HB.out))); (case aF => exact (fun _ _ => trivial)); (case aO => exact (by (with_reducible repeat (first | apply Kd.R_alloc | apply Kd.R_drewN | apply Kd.R_drew)); exact HO_3.out)); (case aS => exact (below_size (by repeat (first | (with_reducible first | exact HB.out | apply below_alloc | apply pw_below_drewN | apply below_drew1) | exact HB.out)))); (case aL => have := LMc8.out; omega); intro v121 w9 ho hb hg hat; rw [← Ny120.out] at ho; have n0_ := Aside0.mk (hb); have n1_ := Aside0.mk (ho); clear HB; clear HO_3; have HB := n0_; have HO122 := n1_; clear n0_ n1_; clear ho hb hg hat))
            go_ret
            exact ⟨_, by first | rfl | (simp [errW_none, errW_some] <;> rfl) | (simp [*, errW_none, errW_some] <;> rfl), by (with_reducible repeat (first | apply Kd.R_alloc | apply Kd.R_drewN | apply Kd.R_drew)); exact HO122.out, by repeat (first | (with_reducible first | exact HB.out | apply below_alloc | apply pw_below_drewN | apply below_drew1) | exact HB.out)⟩
          · rw [if_neg c8] at H
            exact absurd H (by simp)

end Go.Proofs.Ytmpdlkjchhajjaa.RLebPuts
