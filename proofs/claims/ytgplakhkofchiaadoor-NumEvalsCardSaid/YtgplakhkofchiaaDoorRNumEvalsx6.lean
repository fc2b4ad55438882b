-- Made by the program wip/patchprint.py (this session's own, over the kit's print)
import Derived.Test.YtgplakhkofchiaaDoorRNumEvalsx0
import Derived.Test.YtgplakhkofchiaaDoorRNumEvalsx5
namespace Go.Proofs.YtgplakhkofchiaaDoor.RNumEvals
open Go.RowKit Go.Proofs.YtgplakhkofchiaaDoor.Man Go.Proofs.YtgplakhkofchiaaDoorW.PrintWords Go.Proofs.YtgplakhkofchiaaDoorW.PrintLast Go.Proofs.YtgplakhkofchiaaDoorW.PrintMore
attribute [local go_sem] max2_int min2_int max_two min_two max_three min_three max_four min_four   -- for this text's walks alone
set_option linter.unusedVariables false
set_option linter.unusedSimpArgs false
set_option linter.unnecessarySimpa false

attribute [local go_sem] err_eql err_neq err_nil_eql err_nil_neq
attribute [local simp] shl_zero
/-! ### grommetref03_divide: function 36 -/
mutual
def grommetref03_divide.j0 : Nat → Int → Int → Int → Bool → Int → Int → Bool → Option (Int × Int)
  | 0, _, _, _, _, _, _, _ => none
  | k + 1, x0, x1, x2, x3, x10, x11, x12 => if x3 = true then ((grommetref03_negative.f x1 x2).bind fun t165 => (grommetref03_divide.j1 k x0 x1 x2 x10 x11 x12 t165)) else (grommetref03_divide.j1 k x0 x1 x2 x10 x11 x12 false)
def grommetref03_divide.j1 : Nat → Int → Int → Int → Int → Int → Bool → Bool → Option (Int × Int)
  | 0, _, _, _, _, _, _, _ => none
  | k + 1, x0, x1, x2, x10, x11, x12, x13 => if x12 = true then ((grommetref03_opposite.f x0 x2).bind fun t166 => (grommetref03_divide.j2 k x1 x2 t166 x11 x12 x13)) else (grommetref03_divide.j2 k x1 x2 x10 x11 x12 x13)
def grommetref03_divide.j2 : Nat → Int → Int → Int → Int → Bool → Bool → Option (Int × Int)
  | 0, _, _, _, _, _, _ => none
  | k + 1, x1, x2, x10, x11, x12, x13 => if x13 = true then ((grommetref03_opposite.f x1 x2).bind fun t167 => (grommetref03_divide.j3 k x2 x10 t167 x12 x13)) else (grommetref03_divide.j3 k x2 x10 x11 x12 x13)
def grommetref03_divide.j3 : Nat → Int → Int → Int → Bool → Bool → Option (Int × Int)
  | 0, _, _, _, _, _ => none
  | k + 1, x2, x10, x11, x12, x13 => if x11 = 0 then (none) else (if x12 = true then (if x13 = true then ((grommetref03_opposite.f (Int.tmod x10 x11) x2).bind fun t168 => ((grommetref03_low.f (IntKind.u64.wrap (Int.tdiv x10 x11)) x2).bind fun t169 => (some (t169, t168)))) else ((grommetref03_opposite.f (IntKind.u64.wrap (Int.tdiv x10 x11)) x2).bind fun t170 => ((grommetref03_opposite.f (Int.tmod x10 x11) x2).bind fun t171 => ((grommetref03_low.f t170 x2).bind fun t172 => (some (t172, t171)))))) else (if x13 = true then ((grommetref03_opposite.f (IntKind.u64.wrap (Int.tdiv x10 x11)) x2).bind fun t173 => ((grommetref03_low.f t173 x2).bind fun t174 => (some (t174, Int.tmod x10 x11)))) else ((grommetref03_low.f (IntKind.u64.wrap (Int.tdiv x10 x11)) x2).bind fun t175 => (some (t175, Int.tmod x10 x11)))))
end
def grommetref03_divide.f (k : Nat) (a0 : Int) (a1 : Int) (a2 : Int) (a3 : Bool) : Option (Int × Int) := if a3 = true then ((grommetref03_negative.f a0 a2).bind fun t164 => (grommetref03_divide.j0 k a0 a1 a2 a3 a0 a1 t164)) else (grommetref03_divide.j0 k a0 a1 a2 a3 a0 a1 false)
theorem grommetref03_divide.mono_l : ∀ k, (∀ y0 y1 y2 y3 y4 y5 y6, LeO (grommetref03_divide.j0 k y0 y1 y2 y3 y4 y5 y6) (grommetref03_divide.j0 (k + 1) y0 y1 y2 y3 y4 y5 y6)) ∧ (∀ y0 y1 y2 y3 y4 y5 y6, LeO (grommetref03_divide.j1 k y0 y1 y2 y3 y4 y5 y6) (grommetref03_divide.j1 (k + 1) y0 y1 y2 y3 y4 y5 y6)) ∧ (∀ y0 y1 y2 y3 y4 y5, LeO (grommetref03_divide.j2 k y0 y1 y2 y3 y4 y5) (grommetref03_divide.j2 (k + 1) y0 y1 y2 y3 y4 y5)) ∧ (∀ y0 y1 y2 y3 y4, LeO (grommetref03_divide.j3 k y0 y1 y2 y3 y4) (grommetref03_divide.j3 (k + 1) y0 y1 y2 y3 y4))
  | 0 => ⟨fun _ _ _ _ _ _ _ r h => by simp [grommetref03_divide.j0] at h, fun _ _ _ _ _ _ _ r h => by simp [grommetref03_divide.j1] at h, fun _ _ _ _ _ _ r h => by simp [grommetref03_divide.j2] at h, fun _ _ _ _ _ r h => by simp [grommetref03_divide.j3] at h⟩
  | k + 1 => by
    obtain ⟨ih0, ih1, ih2, ih3⟩ := grommetref03_divide.mono_l k
    refine ⟨?_, ?_, ?_, ?_⟩
    · intro y0 y1 y2 y3 y4 y5 y6
      unfold grommetref03_divide.j0
      repeat' first
      | (with_reducible exact ih0 _ _ _ _ _ _ _)
      | (with_reducible exact ih1 _ _ _ _ _ _ _)
      | (with_reducible exact ih2 _ _ _ _ _ _)
      | (with_reducible exact ih3 _ _ _ _ _)
      | (with_reducible exact LeO.refl _)
      | (with_reducible exact LeO.none _)
      | (with_reducible refine LeO.ite ?_ ?_)
      | (with_reducible refine LeO.bind ?_ (fun _ => ?_))
      | exact ih0 _ _ _ _ _ _ _
      | exact ih1 _ _ _ _ _ _ _
      | exact ih2 _ _ _ _ _ _
      | exact ih3 _ _ _ _ _
      | exact LeO.none _
      | refine LeO.ite ?_ ?_
      | refine LeO.bind ?_ (fun _ => ?_)
    · intro y0 y1 y2 y3 y4 y5 y6
      unfold grommetref03_divide.j1
      repeat' first
      | (with_reducible exact ih0 _ _ _ _ _ _ _)
      | (with_reducible exact ih1 _ _ _ _ _ _ _)
      | (with_reducible exact ih2 _ _ _ _ _ _)
      | (with_reducible exact ih3 _ _ _ _ _)
      | (with_reducible exact LeO.refl _)
      | (with_reducible exact LeO.none _)
      | (with_reducible refine LeO.ite ?_ ?_)
      | (with_reducible refine LeO.bind ?_ (fun _ => ?_))
      | exact ih0 _ _ _ _ _ _ _
      | exact ih1 _ _ _ _ _ _ _
      | exact ih2 _ _ _ _ _ _
      | exact ih3 _ _ _ _ _
      | exact LeO.none _
      | refine LeO.ite ?_ ?_
      | refine LeO.bind ?_ (fun _ => ?_)
    · intro y0 y1 y2 y3 y4 y5
      unfold grommetref03_divide.j2
      repeat' first
      | (with_reducible exact ih0 _ _ _ _ _ _ _)
      | (with_reducible exact ih1 _ _ _ _ _ _ _)
      | (with_reducible exact ih2 _ _ _ _ _ _)
      | (with_reducible exact ih3 _ _ _ _ _)
      | (with_reducible exact LeO.refl _)
      | (with_reducible exact LeO.none _)
      | (with_reducible refine LeO.ite ?_ ?_)
      | (with_reducible refine LeO.bind ?_ (fun _ => ?_))
      | exact ih0 _ _ _ _ _ _ _
      | exact ih1 _ _ _ _ _ _ _
      | exact ih2 _ _ _ _ _ _
      | exact ih3 _ _ _ _ _
      | exact LeO.none _
      | refine LeO.ite ?_ ?_
      | refine LeO.bind ?_ (fun _ => ?_)
    · intro y0 y1 y2 y3 y4
      unfold grommetref03_divide.j3
      repeat' first
      | (with_reducible exact ih0 _ _ _ _ _ _ _)
      | (with_reducible exact ih1 _ _ _ _ _ _ _)
      | (with_reducible exact ih2 _ _ _ _ _ _)
      | (with_reducible exact ih3 _ _ _ _ _)
      | (with_reducible exact LeO.refl _)
      | (with_reducible exact LeO.none _)
      | (with_reducible refine LeO.ite ?_ ?_)
      | (with_reducible refine LeO.bind ?_ (fun _ => ?_))
      | exact ih0 _ _ _ _ _ _ _
      | exact ih1 _ _ _ _ _ _ _
      | exact ih2 _ _ _ _ _ _
      | exact ih3 _ _ _ _ _
      | exact LeO.none _
      | refine LeO.ite ?_ ?_
      | refine LeO.bind ?_ (fun _ => ?_)
theorem grommetref03_divide.mono : ∀ a0 a1 a2 a3 k, LeO (grommetref03_divide.f k a0 a1 a2 a3) (grommetref03_divide.f (k + 1) a0 a1 a2 a3) := by
  intro a0 a1 a2 a3 k
  obtain ⟨ih0, ih1, ih2, ih3⟩ := grommetref03_divide.mono_l k
  unfold grommetref03_divide.f
  repeat' first
      | (with_reducible exact ih0 _ _ _ _ _ _ _)
      | (with_reducible exact ih1 _ _ _ _ _ _ _)
      | (with_reducible exact ih2 _ _ _ _ _ _)
      | (with_reducible exact ih3 _ _ _ _ _)
      | (with_reducible exact LeO.refl _)
      | (with_reducible exact LeO.none _)
      | (with_reducible refine LeO.ite ?_ ?_)
      | (with_reducible refine LeO.bind ?_ (fun _ => ?_))
      | exact ih0 _ _ _ _ _ _ _
      | exact ih1 _ _ _ _ _ _ _
      | exact ih2 _ _ _ _ _ _
      | exact ih3 _ _ _ _ _
      | exact LeO.none _
      | refine LeO.ite ?_ ?_
      | refine LeO.bind ?_ (fun _ => ?_)
set_option maxHeartbeats 8000000 in
set_option maxRecDepth 100000 in
theorem grommetref03_divide.calls (k : Nat) (a0 : Int) (a1 : Int) (a2 : Int) (a3 : Bool) (r1 : Int) (r2 : Int) (w : World) (h : grommetref03_divide.f k a0 a1 a2 a3 = some (r1, r2)) :
    Calls Tryd.prog 36 #[.int .u64 a0, .int .u64 a1, .int .i64 a2, .bool a3] w fun e w' => e = .returned (.tuple #[.int .u64 r1, .int .u64 r2]) ∧ Drawn0 w w' := by
  have H : (if a3 = true then ((grommetref03_negative.f a0 a2).bind fun t164 => (grommetref03_divide.j0 k a0 a1 a2 a3 a0 a1 t164)) else (grommetref03_divide.j0 k a0 a1 a2 a3 a0 a1 false)) = some (r1, r2) := h
  clear h
  have HC5 := Aside0.mk H
  clear H
  go_enter Tryd.func36, Tryd.ntmps36
  go_upto_region 3 with (fail)
  go_cut [12] (fun v12 wc => ∃ (kq : Nat) (x12_4 : Bool), v12 = .bool x12_4 ∧ Aside0 (grommetref03_divide.j0 kq a0 a1 a2 a3 a0 a1 x12_4 = some (r1, r2)) ∧ Aside0 (kq ≤ k) ∧ Drawn0 w wc)
  case first =>
    have H := HC5.out
    clear HC5
    by_cases c6 : a3 = true
    · subst c6
      have H1 : ((grommetref03_negative.f a0 a2).bind fun t164 => (grommetref03_divide.j0 k a0 a1 a2 true a0 a1 t164)) = some (r1, r2) := by rw [if_pos rfl] at H; exact H
      clear H
      have H := H1
      clear H1
      replace H := Option.bind_eq_some_iff.mp H
      obtain ⟨t164, A70, H⟩ := H
      replace H : (grommetref03_divide.j0 k a0 a1 a2 true a0 a1 t164) = some (r1, r2) := H
      have A7 := Aside0.mk A70
      clear A70
      have H' := Aside0.mk H
      clear H
      go_wp2_with (first | (go_at_call 24; (with_reducible refine (grommetref03_negative.calls a0 a2 t164 _ A7.out).mono ?_); rintro e w' ⟨rfl, ⟨nd, rfl⟩⟩))
      go_meet
      case rel => exact ⟨_, (t164), (by first | rfl | (simp; done) | (simp [*]; done)), H', ⟨by first | omega | exact Nat.le_refl _⟩, by repeat (first | exact Drawn0.refl _ | apply Drawn0.step)⟩
    · replace c6 := Bool.eq_false_iff.mpr c6
      subst c6
      have H1 : (grommetref03_divide.j0 k a0 a1 a2 false a0 a1 false) = some (r1, r2) := by rw [if_neg (show ¬ (false = true) by decide)] at H; exact H
      clear H
      have H := H1
      clear H1
      have H' := Aside0.mk H
      clear H
      go_wp2
      go_meet
      case rel => exact ⟨_, (false), (by first | rfl | (simp; done) | (simp [*]; done)), H', ⟨by first | omega | exact Nat.le_refl _⟩, by repeat (first | exact Drawn0.refl _ | apply Drawn0.step)⟩
  case rest =>
    clear HC5
    try clear p2
    try clear c3
    try clear c6
    obtain ⟨kq, x12_4, rfl, HA, HJ4, ⟨mc4, rfl⟩⟩ := hcut
    cases kq with
    | zero => exact absurd HA.out (by simp [grommetref03_divide.j0])
    | succ kj4 =>
      have H := HA.out
      clear HA
      simp only [grommetref03_divide.j0] at H
      have HC8 := Aside0.mk H
      clear H
      go_upto_region 4 with (fail)
      go_cut [13] (fun v13 wc => ∃ (kq : Nat) (x13_7 : Bool), v13 = .bool x13_7 ∧ Aside0 (grommetref03_divide.j1 kq a0 a1 a2 a0 a1 x12_4 x13_7 = some (r1, r2)) ∧ Aside0 (kq ≤ kj4) ∧ Drawn0 w wc)
      case first =>
        have H := HC8.out
        clear HC8
        by_cases c9 : a3 = true
        · subst c9
          have H1 : ((grommetref03_negative.f a1 a2).bind fun t165 => (grommetref03_divide.j1 kj4 a0 a1 a2 a0 a1 x12_4 t165)) = some (r1, r2) := by rw [if_pos rfl] at H; exact H
          clear H
          have H := H1
          clear H1
          replace H := Option.bind_eq_some_iff.mp H
          obtain ⟨t165, A100, H⟩ := H
          replace H : (grommetref03_divide.j1 kj4 a0 a1 a2 a0 a1 x12_4 t165) = some (r1, r2) := H
          have A10 := Aside0.mk A100
          clear A100
          have H' := Aside0.mk H
          clear H
          go_wp2_with (first | (go_at_call 24; (with_reducible refine (grommetref03_negative.calls a1 a2 t165 _ A10.out).mono ?_); rintro e w' ⟨rfl, ⟨nd, rfl⟩⟩))
          go_meet
          case rel => exact ⟨_, (t165), (by first | rfl | (simp; done) | (simp [*]; done)), H', ⟨by have := HJ4.out; first | omega | exact Nat.le_refl _⟩, by repeat (first | exact Drawn0.refl _ | apply Drawn0.step)⟩
        · replace c9 := Bool.eq_false_iff.mpr c9
          subst c9
          have H1 : (grommetref03_divide.j1 kj4 a0 a1 a2 a0 a1 x12_4 false) = some (r1, r2) := by rw [if_neg (show ¬ (false = true) by decide)] at H; exact H
          clear H
          have H := H1
          clear H1
          have H' := Aside0.mk H
          clear H
          go_wp2
          go_meet
          case rel => exact ⟨_, (false), (by first | rfl | (simp; done) | (simp [*]; done)), H', ⟨by have := HJ4.out; first | omega | exact Nat.le_refl _⟩, by repeat (first | exact Drawn0.refl _ | apply Drawn0.step)⟩
      case rest =>
        clear HC8
        try clear p2
        try clear c3
        try clear c4
        try clear c6
        try clear c9
        try clear p2
        obtain ⟨kq, x13_7, rfl, HA, HJ7, ⟨mc7, rfl⟩⟩ := hcut
        cases kq with
        | zero => exact absurd HA.out (by simp [grommetref03_divide.j1])
        | succ kj7 =>
          have H := HA.out
          clear HA
          simp only [grommetref03_divide.j1] at H
          have HC11 := Aside0.mk H
          clear H
          go_upto_if 30 with (fail)
          go_cut [10] (fun v10 wc => ∃ (kq : Nat) (x10_10 : Int), v10 = .int .u64 x10_10 ∧ Aside0 (grommetref03_divide.j2 kq a1 a2 x10_10 a1 x12_4 x13_7 = some (r1, r2)) ∧ Aside0 (kq ≤ kj7) ∧ Drawn0 w wc)
          case first =>
            have H := HC11.out
            clear HC11
            by_cases c12 : x12_4 = true
            · subst c12
              have H1 : ((grommetref03_opposite.f a0 a2).bind fun t166 => (grommetref03_divide.j2 kj7 a1 a2 t166 a1 true x13_7)) = some (r1, r2) := by rw [if_pos rfl] at H; exact H
              clear H
              have H := H1
              clear H1
              replace H := Option.bind_eq_some_iff.mp H
              obtain ⟨t166, A130, H⟩ := H
              replace H : (grommetref03_divide.j2 kj7 a1 a2 t166 a1 true x13_7) = some (r1, r2) := H
              have A13 := Aside0.mk A130
              clear A130
              have H' := Aside0.mk H
              clear H
              go_wp2_with (first | ((with_reducible refine gate_callee (f := 35) rfl ?_); refine goesL_ (some 33) rfl rfl Tryd.func35 (by kernel_rfl) rfl #[.int .u64 a0, .int .i64 a2] rfl (by (try simp only [List.map_toArray, List.map_cons, List.map_nil]); first | done | rfl | (simp only [List.length_drop, List.length_take]; rfl)) ?_; (with_reducible refine (grommetref03_opposite.calls a0 a2 t166 _ A13.out).mono ?_); rintro e w' ⟨rfl, ⟨nd, rfl⟩⟩; refine ⟨_, rfl, ?_⟩))
              go_meet
              case rel => exact ⟨_, (t166), (by first | rfl | (simp; done) | (simp [*]; done)), H', ⟨by have := HJ4.out; have := HJ7.out; first | omega | exact Nat.le_refl _⟩, by repeat (first | exact Drawn0.refl _ | apply Drawn0.step)⟩
            · replace c12 := Bool.eq_false_iff.mpr c12
              subst c12
              have H1 : (grommetref03_divide.j2 kj7 a1 a2 a0 a1 false x13_7) = some (r1, r2) := by rw [if_neg (show ¬ (false = true) by decide)] at H; exact H
              clear H
              have H := H1
              clear H1
              have H' := Aside0.mk H
              clear H
              go_wp2
              go_meet
              case rel => exact ⟨_, (a0), (by first | rfl | (simp; done) | (simp [*]; done)), H', ⟨by have := HJ4.out; have := HJ7.out; first | omega | exact Nat.le_refl _⟩, by repeat (first | exact Drawn0.refl _ | apply Drawn0.step)⟩
          case rest =>
            clear HC11
            try clear c1
            try clear p2
            try clear c3
            try clear c4
            try clear c6
            try clear c7
            try clear c9
            try clear c12
            try clear p2
            obtain ⟨kq, x10_10, rfl, HA, HJ10, ⟨mc10, rfl⟩⟩ := hcut
            cases kq with
            | zero => exact absurd HA.out (by simp [grommetref03_divide.j2])
            | succ kj10 =>
              have H := HA.out
              clear HA
              simp only [grommetref03_divide.j2] at H
              have HC14 := Aside0.mk H
              clear H
              go_upto_if 34 with (fail)
              go_cut [11] (fun v11 wc => ∃ (kq : Nat) (x11_13 : Int), v11 = .int .u64 x11_13 ∧ Aside0 (grommetref03_divide.j3 kq a2 x10_10 x11_13 x12_4 x13_7 = some (r1, r2)) ∧ Aside0 (kq ≤ kj10) ∧ Drawn0 w wc)
              case first =>
                have H := HC14.out
                clear HC14
                by_cases c15 : x13_7 = true
                · subst c15
                  have H1 : ((grommetref03_opposite.f a1 a2).bind fun t167 => (grommetref03_divide.j3 kj10 a2 x10_10 t167 x12_4 true)) = some (r1, r2) := by rw [if_pos rfl] at H; exact H
                  clear H
                  have H := H1
                  clear H1
                  replace H := Option.bind_eq_some_iff.mp H
                  obtain ⟨t167, A160, H⟩ := H
                  replace H : (grommetref03_divide.j3 kj10 a2 x10_10 t167 x12_4 true) = some (r1, r2) := H
                  have A16 := Aside0.mk A160
                  clear A160
                  have H' := Aside0.mk H
                  clear H
                  go_wp2_with (first | ((with_reducible refine gate_callee (f := 35) rfl ?_); refine goesL_ (some 37) rfl rfl Tryd.func35 (by kernel_rfl) rfl #[.int .u64 a1, .int .i64 a2] rfl (by (try simp only [List.map_toArray, List.map_cons, List.map_nil]); first | done | rfl | (simp only [List.length_drop, List.length_take]; rfl)) ?_; (with_reducible refine (grommetref03_opposite.calls a1 a2 t167 _ A16.out).mono ?_); rintro e w' ⟨rfl, ⟨nd, rfl⟩⟩; refine ⟨_, rfl, ?_⟩))
                  go_meet
                  case rel => exact ⟨_, (t167), (by first | rfl | (simp; done) | (simp [*]; done)), H', ⟨by have := HJ4.out; have := HJ7.out; have := HJ10.out; first | omega | exact Nat.le_refl _⟩, by repeat (first | exact Drawn0.refl _ | apply Drawn0.step)⟩
                · replace c15 := Bool.eq_false_iff.mpr c15
                  subst c15
                  have H1 : (grommetref03_divide.j3 kj10 a2 x10_10 a1 x12_4 false) = some (r1, r2) := by rw [if_neg (show ¬ (false = true) by decide)] at H; exact H
                  clear H
                  have H := H1
                  clear H1
                  have H' := Aside0.mk H
                  clear H
                  go_wp2
                  go_meet
                  case rel => exact ⟨_, (a1), (by first | rfl | (simp; done) | (simp [*]; done)), H', ⟨by have := HJ4.out; have := HJ7.out; have := HJ10.out; first | omega | exact Nat.le_refl _⟩, by repeat (first | exact Drawn0.refl _ | apply Drawn0.step)⟩
              case rest =>
                clear HC14
                try clear c1
                try clear p2
                try clear c3
                try clear c4
                try clear c6
                try clear c7
                try clear c9
                try clear c10
                try clear c12
                try clear c15
                try clear p2
                obtain ⟨kq, x11_13, rfl, HA, HJ13, ⟨mc13, rfl⟩⟩ := hcut
                cases kq with
                | zero => exact absurd HA.out (by simp [grommetref03_divide.j3])
                | succ kj13 =>
                  have H := HA.out
                  clear HA
                  simp only [grommetref03_divide.j3] at H
                  by_cases c17 : x11_13 = 0
                  · rw [if_pos c17] at H
                    exact absurd H (by simp)
                  · rw [if_neg c17] at H
                    have c17b0 : (x11_13 == 0) = false := beq_eq_false_iff_ne.mpr c17
                    have c17b1 : (x11_13 != 0) = true := bne_iff_ne.mpr c17
                    by_cases c18 : x12_4 = true
                    · subst c18
                      have H1 : (if x13_7 = true then ((grommetref03_opposite.f (Int.tmod x10_10 x11_13) a2).bind fun t168 => ((grommetref03_low.f (IntKind.u64.wrap (Int.tdiv x10_10 x11_13)) a2).bind fun t169 => (some (t169, t168)))) else ((grommetref03_opposite.f (IntKind.u64.wrap (Int.tdiv x10_10 x11_13)) a2).bind fun t170 => ((grommetref03_opposite.f (Int.tmod x10_10 x11_13) a2).bind fun t171 => ((grommetref03_low.f t170 a2).bind fun t172 => (some (t172, t171)))))) = some (r1, r2) := by rw [if_pos rfl] at H; exact H
                      clear H
                      have H := H1
                      clear H1
                      by_cases c19 : x13_7 = true
                      · subst c19
                        have H1 : ((grommetref03_opposite.f (Int.tmod x10_10 x11_13) a2).bind fun t168 => ((grommetref03_low.f (IntKind.u64.wrap (Int.tdiv x10_10 x11_13)) a2).bind fun t169 => (some (t169, t168)))) = some (r1, r2) := by rw [if_pos rfl] at H; exact H
                        clear H
                        have H := H1
                        clear H1
                        replace H := Option.bind_eq_some_iff.mp H
                        obtain ⟨t168, A200, H⟩ := H
                        replace H : ((grommetref03_low.f (IntKind.u64.wrap (Int.tdiv x10_10 x11_13)) a2).bind fun t169 => (some (t169, t168))) = some (r1, r2) := H
                        have A20 := Aside0.mk A200
                        clear A200
                        replace H := Option.bind_eq_some_iff.mp H
                        obtain ⟨t169, A210, H⟩ := H
                        replace H : (some (t169, t168)) = some (r1, r2) := H
                        have A21 := Aside0.mk A210
                        clear A210
                        simp only [Option.some.injEq, Prod.mk.injEq] at H
                        obtain ⟨rfl, rfl⟩ := H
                        go_wp2_with (first | ((with_reducible refine gate_callee (f := 35) rfl ?_); refine goesL_ (some 53) rfl rfl Tryd.func35 (by kernel_rfl) rfl #[.int .u64 (Int.tmod x10_10 x11_13), .int .i64 a2] rfl (by (try simp only [List.map_toArray, List.map_cons, List.map_nil]); first | done | rfl | (simp only [List.length_drop, List.length_take]; rfl)) ?_; (with_reducible refine (grommetref03_opposite.calls (Int.tmod x10_10 x11_13) a2 t168 _ A20.out).mono ?_); rintro e w' ⟨rfl, ⟨nd, rfl⟩⟩; refine ⟨_, rfl, ?_⟩) | ((with_reducible refine gate_callee (f := 37) rfl ?_); refine goesL_ (some 56) rfl rfl Tryd.func37 (by kernel_rfl) rfl #[.int .u64 (IntKind.u64.wrap (Int.tdiv x10_10 x11_13)), .int .i64 a2] rfl (by (try simp only [List.map_toArray, List.map_cons, List.map_nil]); first | done | rfl | (simp only [List.length_drop, List.length_take]; rfl)) ?_; (with_reducible refine (grommetref03_low.calls (IntKind.u64.wrap (Int.tdiv x10_10 x11_13)) a2 t169 _ A21.out).mono ?_); rintro e w' ⟨rfl, ⟨nd, rfl⟩⟩; refine ⟨_, rfl, ?_⟩))
                        go_ret2
                        exact ⟨by first | rfl | (simp; done) | (simp [*]; done), by repeat (first | exact Drawn0.refl _ | apply Drawn0.step)⟩
                      · replace c19 := Bool.eq_false_iff.mpr c19
                        subst c19
                        have H1 : ((grommetref03_opposite.f (IntKind.u64.wrap (Int.tdiv x10_10 x11_13)) a2).bind fun t170 => ((grommetref03_opposite.f (Int.tmod x10_10 x11_13) a2).bind fun t171 => ((grommetref03_low.f t170 a2).bind fun t172 => (some (t172, t171))))) = some (r1, r2) := by rw [if_neg (show ¬ (false = true) by decide)] at H; exact H
                        clear H
                        have H := H1
                        clear H1
                        replace H := Option.bind_eq_some_iff.mp H
                        obtain ⟨t170, A220, H⟩ := H
                        replace H : ((grommetref03_opposite.f (Int.tmod x10_10 x11_13) a2).bind fun t171 => ((grommetref03_low.f t170 a2).bind fun t172 => (some (t172, t171)))) = some (r1, r2) := H
                        have A22 := Aside0.mk A220
                        clear A220
                        replace H := Option.bind_eq_some_iff.mp H
                        obtain ⟨t171, A230, H⟩ := H
                        replace H : ((grommetref03_low.f t170 a2).bind fun t172 => (some (t172, t171))) = some (r1, r2) := H
                        have A23 := Aside0.mk A230
                        clear A230
                        replace H := Option.bind_eq_some_iff.mp H
                        obtain ⟨t172, A240, H⟩ := H
                        replace H : (some (t172, t171)) = some (r1, r2) := H
                        have A24 := Aside0.mk A240
                        clear A240
                        simp only [Option.some.injEq, Prod.mk.injEq] at H
                        obtain ⟨rfl, rfl⟩ := H
                        go_wp2_with (first | ((with_reducible refine gate_callee (f := 35) rfl ?_); refine goesL_ (some 49) rfl rfl Tryd.func35 (by kernel_rfl) rfl #[.int .u64 (IntKind.u64.wrap (Int.tdiv x10_10 x11_13)), .int .i64 a2] rfl (by (try simp only [List.map_toArray, List.map_cons, List.map_nil]); first | done | rfl | (simp only [List.length_drop, List.length_take]; rfl)) ?_; (with_reducible refine (grommetref03_opposite.calls (IntKind.u64.wrap (Int.tdiv x10_10 x11_13)) a2 t170 _ A22.out).mono ?_); rintro e w' ⟨rfl, ⟨nd, rfl⟩⟩; refine ⟨_, rfl, ?_⟩) | ((with_reducible refine gate_callee (f := 35) rfl ?_); refine goesL_ (some 53) rfl rfl Tryd.func35 (by kernel_rfl) rfl #[.int .u64 (Int.tmod x10_10 x11_13), .int .i64 a2] rfl (by (try simp only [List.map_toArray, List.map_cons, List.map_nil]); first | done | rfl | (simp only [List.length_drop, List.length_take]; rfl)) ?_; (with_reducible refine (grommetref03_opposite.calls (Int.tmod x10_10 x11_13) a2 t171 _ A23.out).mono ?_); rintro e w' ⟨rfl, ⟨nd, rfl⟩⟩; refine ⟨_, rfl, ?_⟩) | ((with_reducible refine gate_callee (f := 37) rfl ?_); refine goesL_ (some 56) rfl rfl Tryd.func37 (by kernel_rfl) rfl #[.int .u64 t170, .int .i64 a2] rfl (by (try simp only [List.map_toArray, List.map_cons, List.map_nil]); first | done | rfl | (simp only [List.length_drop, List.length_take]; rfl)) ?_; (with_reducible refine (grommetref03_low.calls t170 a2 t172 _ A24.out).mono ?_); rintro e w' ⟨rfl, ⟨nd, rfl⟩⟩; refine ⟨_, rfl, ?_⟩))
                        go_ret2
                        exact ⟨by first | rfl | (simp; done) | (simp [*]; done), by repeat (first | exact Drawn0.refl _ | apply Drawn0.step)⟩
                    · replace c18 := Bool.eq_false_iff.mpr c18
                      subst c18
                      have H1 : (if x13_7 = true then ((grommetref03_opposite.f (IntKind.u64.wrap (Int.tdiv x10_10 x11_13)) a2).bind fun t173 => ((grommetref03_low.f t173 a2).bind fun t174 => (some (t174, Int.tmod x10_10 x11_13)))) else ((grommetref03_low.f (IntKind.u64.wrap (Int.tdiv x10_10 x11_13)) a2).bind fun t175 => (some (t175, Int.tmod x10_10 x11_13)))) = some (r1, r2) := by rw [if_neg (show ¬ (false = true) by decide)] at H; exact H
                      clear H
                      have H := H1
                      clear H1
                      by_cases c25 : x13_7 = true
                      · subst c25
                        have H1 : ((grommetref03_opposite.f (IntKind.u64.wrap (Int.tdiv x10_10 x11_13)) a2).bind fun t173 => ((grommetref03_low.f t173 a2).bind fun t174 => (some (t174, Int.tmod x10_10 x11_13)))) = some (r1, r2) := by rw [if_pos rfl] at H; exact H
                        clear H
                        have H := H1
                        clear H1
                        replace H := Option.bind_eq_some_iff.mp H
                        obtain ⟨t173, A260, H⟩ := H
                        replace H : ((grommetref03_low.f t173 a2).bind fun t174 => (some (t174, Int.tmod x10_10 x11_13))) = some (r1, r2) := H
                        have A26 := Aside0.mk A260
                        clear A260
                        replace H := Option.bind_eq_some_iff.mp H
                        obtain ⟨t174, A270, H⟩ := H
                        replace H : (some (t174, Int.tmod x10_10 x11_13)) = some (r1, r2) := H
                        have A27 := Aside0.mk A270
                        clear A270
                        simp only [Option.some.injEq, Prod.mk.injEq] at H
                        obtain ⟨rfl, rfl⟩ := H
                        go_wp2_with (first | ((with_reducible refine gate_callee (f := 35) rfl ?_); refine goesL_ (some 49) rfl rfl Tryd.func35 (by kernel_rfl) rfl #[.int .u64 (IntKind.u64.wrap (Int.tdiv x10_10 x11_13)), .int .i64 a2] rfl (by (try simp only [List.map_toArray, List.map_cons, List.map_nil]); first | done | rfl | (simp only [List.length_drop, List.length_take]; rfl)) ?_; (with_reducible refine (grommetref03_opposite.calls (IntKind.u64.wrap (Int.tdiv x10_10 x11_13)) a2 t173 _ A26.out).mono ?_); rintro e w' ⟨rfl, ⟨nd, rfl⟩⟩; refine ⟨_, rfl, ?_⟩) | ((with_reducible refine gate_callee (f := 37) rfl ?_); refine goesL_ (some 56) rfl rfl Tryd.func37 (by kernel_rfl) rfl #[.int .u64 t173, .int .i64 a2] rfl (by (try simp only [List.map_toArray, List.map_cons, List.map_nil]); first | done | rfl | (simp only [List.length_drop, List.length_take]; rfl)) ?_; (with_reducible refine (grommetref03_low.calls t173 a2 t174 _ A27.out).mono ?_); rintro e w' ⟨rfl, ⟨nd, rfl⟩⟩; refine ⟨_, rfl, ?_⟩))
                        go_ret2
                        exact ⟨by first | rfl | (simp; done) | (simp [*]; done), by repeat (first | exact Drawn0.refl _ | apply Drawn0.step)⟩
                      · replace c25 := Bool.eq_false_iff.mpr c25
                        subst c25
                        have H1 : ((grommetref03_low.f (IntKind.u64.wrap (Int.tdiv x10_10 x11_13)) a2).bind fun t175 => (some (t175, Int.tmod x10_10 x11_13))) = some (r1, r2) := by rw [if_neg (show ¬ (false = true) by decide)] at H; exact H
                        clear H
                        have H := H1
                        clear H1
                        replace H := Option.bind_eq_some_iff.mp H
                        obtain ⟨t175, A280, H⟩ := H
                        replace H : (some (t175, Int.tmod x10_10 x11_13)) = some (r1, r2) := H
                        have A28 := Aside0.mk A280
                        clear A280
                        simp only [Option.some.injEq, Prod.mk.injEq] at H
                        obtain ⟨rfl, rfl⟩ := H
                        go_wp2_with (first | ((with_reducible refine gate_callee (f := 37) rfl ?_); refine goesL_ (some 56) rfl rfl Tryd.func37 (by kernel_rfl) rfl #[.int .u64 (IntKind.u64.wrap (Int.tdiv x10_10 x11_13)), .int .i64 a2] rfl (by (try simp only [List.map_toArray, List.map_cons, List.map_nil]); first | done | rfl | (simp only [List.length_drop, List.length_take]; rfl)) ?_; (with_reducible refine (grommetref03_low.calls (IntKind.u64.wrap (Int.tdiv x10_10 x11_13)) a2 t175 _ A28.out).mono ?_); rintro e w' ⟨rfl, ⟨nd, rfl⟩⟩; refine ⟨_, rfl, ?_⟩))
                        go_ret2
                        exact ⟨by first | rfl | (simp; done) | (simp [*]; done), by repeat (first | exact Drawn0.refl _ | apply Drawn0.step)⟩

end Go.Proofs.YtgplakhkofchiaaDoor.RNumEvals
