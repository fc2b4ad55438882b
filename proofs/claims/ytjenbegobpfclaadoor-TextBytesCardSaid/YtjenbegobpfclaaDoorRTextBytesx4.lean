-- Made by the program wip/patchprint.py (this session's own, over the kit's print)
import Derived.Test.YtjenbegobpfclaaDoorRTextBytesx0
import Derived.Test.YtjenbegobpfclaaDoorRTextBytesx2
import Derived.Test.YtjenbegobpfclaaDoorRTextBytesx3
namespace Go.Proofs.YtjenbegobpfclaaDoor.RTextBytes
open Go.RowKit Go.Proofs.YtjenbegobpfclaaDoor.Man Go.Proofs.YtjenbegobpfclaaDoorW.PrintWords Go.Proofs.YtjenbegobpfclaaDoorW.PrintLast Go.Proofs.YtjenbegobpfclaaDoorW.PrintMore
attribute [local go_sem] max2_int min2_int max_two min_two max_three min_three max_four min_four   -- for this text's walks alone
set_option linter.unusedVariables false
set_option linter.unusedSimpArgs false
set_option linter.unnecessarySimpa false

attribute [local simp] shl_zero
theorem shr_pos (y : Int) : 0 ≤ shr .u64 18446744073709551615 y := by
  unfold shr
  exact Int.ediv_nonneg (by decide) (Int.le_of_lt (Int.pow_pos (by decide)))
theorem half_fix (y : Int) : IntKind.u64.wrap (IntKind.u64.wrap (Int.tdiv (shr .u64 18446744073709551615 y) 2) + 1) = IntKind.u64.wrap (shr .u64 18446744073709551615 y / 2 + 1) := by
  rw [Int.tdiv_eq_ediv_of_nonneg (shr_pos y)]
  generalize shr .u64 18446744073709551615 y / 2 = z
  have e : ∀ a : Int, IntKind.u64.wrap a = a % 18446744073709551616 := fun a => rfl
  rw [e, e, e]
  omega
/-! ### text_Int: function 8 -/
mutual
def text_Int.j0 : Nat → ByteArray → Int → Bool → Option (Int × Option Int)
  | 0, _, _, _ => none
  | k + 1, x0, x1, x20 => if x20 = true then (some (0, some 1)) else ((strings_CutPrefix.f x0 (⟨#[45]⟩ : ByteArray)).bind fun bt160 => (if bt160.2 = true then (text_Int.j1 k x1 bt160.1 bt160.2) else ((strings_TrimPrefix.f x0 (⟨#[43]⟩ : ByteArray)).bind fun t162 => (text_Int.j1 k x1 t162 bt160.2))))
def text_Int.j1 : Nat → Int → ByteArray → Bool → Option (Int × Option Int)
  | 0, _, _, _ => none
  | k + 1, x1, x6, x7 => (text_float.f k x6).bind fun t163 => (if t163 = true then (some (0, some 3)) else ((strings_CutPrefix.f x6 (⟨#[48, 120]⟩ : ByteArray)).bind fun bt164 => (if bt164.2 = true then (text_Int.j2 k x1 bt164.1 x7 16) else (text_Int.j2 k x1 x6 x7 10))))
def text_Int.j2 : Nat → Int → ByteArray → Bool → Int → Option (Int × Option Int)
  | 0, _, _, _, _ => none
  | k + 1, x1, x6, x7, x10 => (text_digits.f x6 x10).bind fun bt166 => (if 0 ≤ (wrap64 (64 - x1)) then (if bt166.2.2 = true then (if bt166.2.1 = true then (if bt166.1 > (shr .u64 18446744073709551615 (wrap64 (64 - x1))) then (text_Int.j3 k x7 bt166.1 (shr .u64 18446744073709551615 (wrap64 (64 - x1))) true) else (if x7 = true then (text_Int.j3 k x7 bt166.1 (shr .u64 18446744073709551615 (wrap64 (64 - x1))) (decide (bt166.1 > (IntKind.u64.wrap (((shr .u64 18446744073709551615 (wrap64 (64 - x1))) / 2) + 1))))) else (text_Int.j3 k x7 bt166.1 (shr .u64 18446744073709551615 (wrap64 (64 - x1))) false))) else (text_Int.j3 k x7 bt166.1 (shr .u64 18446744073709551615 (wrap64 (64 - x1))) true)) else (some (0, some 2))) else (none))
def text_Int.j3 : Nat → Bool → Int → Int → Bool → Option (Int × Option Int)
  | 0, _, _, _, _ => none
  | k + 1, x7, x11, x14, x55 => if x55 = true then (some (0, some 7)) else (if x7 = true then (some (Go.bits .and .u64 (IntKind.u64.wrap (-x11)) x14, none)) else (some (x11, none)))
end
def text_Int.f (k : Nat) (a0 : ByteArray) (a1 : Int) : Option (Int × Option Int) := if a1 = 32 then (text_Int.j0 k a0 a1 false) else (text_Int.j0 k a0 a1 (a1 != 64))
theorem text_Int.mono_l : ∀ k, (∀ y0 y1 y2, LeO (text_Int.j0 k y0 y1 y2) (text_Int.j0 (k + 1) y0 y1 y2)) ∧ (∀ y0 y1 y2, LeO (text_Int.j1 k y0 y1 y2) (text_Int.j1 (k + 1) y0 y1 y2)) ∧ (∀ y0 y1 y2 y3, LeO (text_Int.j2 k y0 y1 y2 y3) (text_Int.j2 (k + 1) y0 y1 y2 y3)) ∧ (∀ y0 y1 y2 y3, LeO (text_Int.j3 k y0 y1 y2 y3) (text_Int.j3 (k + 1) y0 y1 y2 y3))
  | 0 => ⟨fun _ _ _ r h => by simp [text_Int.j0] at h, fun _ _ _ r h => by simp [text_Int.j1] at h, fun _ _ _ _ r h => by simp [text_Int.j2] at h, fun _ _ _ _ r h => by simp [text_Int.j3] at h⟩
  | k + 1 => by
    obtain ⟨ih0, ih1, ih2, ih3⟩ := text_Int.mono_l k
    refine ⟨?_, ?_, ?_, ?_⟩
    · intro y0 y1 y2
      unfold text_Int.j0
      repeat' first
      | (with_reducible exact ih0 _ _ _)
      | (with_reducible exact ih1 _ _ _)
      | (with_reducible exact ih2 _ _ _ _)
      | (with_reducible exact ih3 _ _ _ _)
      | (with_reducible exact text_float.mono _ _)
      | (with_reducible exact LeO.refl _)
      | (with_reducible exact LeO.none _)
      | (with_reducible refine LeO.ite ?_ ?_)
      | (with_reducible refine LeO.bind ?_ (fun _ => ?_))
      | exact ih0 _ _ _
      | exact ih1 _ _ _
      | exact ih2 _ _ _ _
      | exact ih3 _ _ _ _
      | exact text_float.mono _ _
      | exact LeO.none _
      | refine LeO.ite ?_ ?_
      | refine LeO.bind ?_ (fun _ => ?_)
    · intro y0 y1 y2
      unfold text_Int.j1
      repeat' first
      | (with_reducible exact ih0 _ _ _)
      | (with_reducible exact ih1 _ _ _)
      | (with_reducible exact ih2 _ _ _ _)
      | (with_reducible exact ih3 _ _ _ _)
      | (with_reducible exact text_float.mono _ _)
      | (with_reducible exact LeO.refl _)
      | (with_reducible exact LeO.none _)
      | (with_reducible refine LeO.ite ?_ ?_)
      | (with_reducible refine LeO.bind ?_ (fun _ => ?_))
      | exact ih0 _ _ _
      | exact ih1 _ _ _
      | exact ih2 _ _ _ _
      | exact ih3 _ _ _ _
      | exact text_float.mono _ _
      | exact LeO.none _
      | refine LeO.ite ?_ ?_
      | refine LeO.bind ?_ (fun _ => ?_)
    · intro y0 y1 y2 y3
      unfold text_Int.j2
      repeat' first
      | (with_reducible exact ih0 _ _ _)
      | (with_reducible exact ih1 _ _ _)
      | (with_reducible exact ih2 _ _ _ _)
      | (with_reducible exact ih3 _ _ _ _)
      | (with_reducible exact text_float.mono _ _)
      | (with_reducible exact LeO.refl _)
      | (with_reducible exact LeO.none _)
      | (with_reducible refine LeO.ite ?_ ?_)
      | (with_reducible refine LeO.bind ?_ (fun _ => ?_))
      | exact ih0 _ _ _
      | exact ih1 _ _ _
      | exact ih2 _ _ _ _
      | exact ih3 _ _ _ _
      | exact text_float.mono _ _
      | exact LeO.none _
      | refine LeO.ite ?_ ?_
      | refine LeO.bind ?_ (fun _ => ?_)
    · intro y0 y1 y2 y3
      unfold text_Int.j3
      repeat' first
      | (with_reducible exact ih0 _ _ _)
      | (with_reducible exact ih1 _ _ _)
      | (with_reducible exact ih2 _ _ _ _)
      | (with_reducible exact ih3 _ _ _ _)
      | (with_reducible exact text_float.mono _ _)
      | (with_reducible exact LeO.refl _)
      | (with_reducible exact LeO.none _)
      | (with_reducible refine LeO.ite ?_ ?_)
      | (with_reducible refine LeO.bind ?_ (fun _ => ?_))
      | exact ih0 _ _ _
      | exact ih1 _ _ _
      | exact ih2 _ _ _ _
      | exact ih3 _ _ _ _
      | exact text_float.mono _ _
      | exact LeO.none _
      | refine LeO.ite ?_ ?_
      | refine LeO.bind ?_ (fun _ => ?_)
theorem text_Int.mono : ∀ a0 a1 k, LeO (text_Int.f k a0 a1) (text_Int.f (k + 1) a0 a1) := by
  intro a0 a1 k
  obtain ⟨ih0, ih1, ih2, ih3⟩ := text_Int.mono_l k
  unfold text_Int.f
  repeat' first
      | (with_reducible exact ih0 _ _ _)
      | (with_reducible exact ih1 _ _ _)
      | (with_reducible exact ih2 _ _ _ _)
      | (with_reducible exact ih3 _ _ _ _)
      | (with_reducible exact text_float.mono _ _)
      | (with_reducible exact LeO.refl _)
      | (with_reducible exact LeO.none _)
      | (with_reducible refine LeO.ite ?_ ?_)
      | (with_reducible refine LeO.bind ?_ (fun _ => ?_))
      | exact ih0 _ _ _
      | exact ih1 _ _ _
      | exact ih2 _ _ _ _
      | exact ih3 _ _ _ _
      | exact text_float.mono _ _
      | exact LeO.none _
      | refine LeO.ite ?_ ?_
      | refine LeO.bind ?_ (fun _ => ?_)
set_option maxHeartbeats 8000000 in
set_option maxRecDepth 100000 in
theorem text_Int.calls (k : Nat) (a0 : ByteArray) (a1 : Int) (r1 : Int) (r2 : Option Int) (w : World) (h : text_Int.f k a0 a1 = some (r1, r2)) :
    Calls Tryd.prog 8 #[.string a0, .int .i64 a1] w fun e w' => e = .returned (.tuple #[.int .u64 r1, errW r2]) ∧ Below w.heap.size w w' := by
  have hu25 := Tryd.underlying25
  have hu31 := Tryd.underlying31
  have HB := Aside0.mk (Below.refl w.heap.size w)
  have H : (if a1 = 32 then (text_Int.j0 k a0 a1 false) else (text_Int.j0 k a0 a1 (a1 != 64))) = some (r1, r2) := h
  clear h
  have HC3 := Aside0.mk H
  clear H
  go_enter Tryd.func8, Tryd.ntmps8
  go_upto_region 1 with (fail)
  go_cut [20] (fun v20 wc => ∃ (kq : Nat) (x20_2 : Bool), v20 = .bool x20_2 ∧ Aside0 (text_Int.j0 kq a0 a1 x20_2 = some (r1, r2)) ∧ Aside0 (kq ≤ k) ∧ Aside0 (Below w.heap.size w wc))
  case first =>
    have H := HC3.out
    clear HC3
    by_cases c4 : a1 = 32
    · rw [if_pos c4] at H
      have c4b0 : (a1 == 32) = true := beq_iff_eq.mpr c4
      have c4b1 : (a1 != 32) = false := bne_eq_false_iff_eq.mpr c4
      clear c4
      (first | rw [c4b0] | (simp only [i64_w, i32_w]; rw [c4b0]) | skip)
      have H' := Aside0.mk H
      clear H
      go_wp2
      go_meet
      case rel => exact ⟨_, (false), (by first | rfl | (simp; done) | (simp [*]; done)), H', ⟨by first | omega | exact Nat.le_refl _⟩, ⟨by repeat (first | (with_reducible first | exact HB.out | apply below_alloc | apply pw_below_drewN | apply below_drew1) | exact HB.out)⟩⟩
    · rw [if_neg c4] at H
      have c4b0 : (a1 == 32) = false := beq_eq_false_iff_ne.mpr c4
      have c4b1 : (a1 != 32) = true := bne_iff_ne.mpr c4
      (first | rw [c4b0] | (simp only [i64_w, i32_w]; rw [c4b0]) | skip)
      have H' := Aside0.mk H
      clear H
      go_wp2
      go_meet
      case rel => exact ⟨_, ((a1 != 64)), (by first | rfl | (simp; done) | (simp [*]; done)), H', ⟨by first | omega | exact Nat.le_refl _⟩, ⟨by repeat (first | (with_reducible first | exact HB.out | apply below_alloc | apply pw_below_drewN | apply below_drew1) | exact HB.out)⟩⟩
  case rest =>
    clear HC3
    try clear p2
    try clear c4
    try clear c4b0
    try clear c4b1
    obtain ⟨kq, x20_2, rfl, HA, HJ2, HB⟩ := hcut
    cases kq with
    | zero => exact absurd HA.out (by simp [text_Int.j0])
    | succ kj2 =>
      have H := HA.out
      clear HA
      simp only [text_Int.j0] at H
      by_cases c5 : x20_2 = true
      · subst c5
        have H1 : (some (0, some 1)) = some (r1, r2) := by rw [if_pos rfl] at H; exact H
        clear H
        have H := H1
        clear H1
        simp only [Option.some.injEq, Prod.mk.injEq] at H
        obtain ⟨rfl, rfl⟩ := H
        go_wp2
        go_ret2
        exact ⟨by first | rfl | (simp [errW_none, errW_some] <;> rfl) | (simp [*, errW_none, errW_some] <;> rfl), by repeat (first | (with_reducible first | exact HB.out | apply below_alloc | apply pw_below_drewN | apply below_drew1) | exact HB.out)⟩
      · replace c5 := Bool.eq_false_iff.mpr c5
        subst c5
        have H1 : ((strings_CutPrefix.f a0 (⟨#[45]⟩ : ByteArray)).bind fun bt160 => (if bt160.2 = true then (text_Int.j1 kj2 a1 bt160.1 bt160.2) else ((strings_TrimPrefix.f a0 (⟨#[43]⟩ : ByteArray)).bind fun t162 => (text_Int.j1 kj2 a1 t162 bt160.2)))) = some (r1, r2) := by rw [if_neg (show ¬ (false = true) by decide)] at H; exact H
        clear H
        have H := H1
        clear H1
        replace H := Option.bind_eq_some_iff.mp H
        obtain ⟨⟨t160, t161⟩, A60, H⟩ := H
        replace H : (if t161 = true then (text_Int.j1 kj2 a1 t160 t161) else ((strings_TrimPrefix.f a0 (⟨#[43]⟩ : ByteArray)).bind fun t162 => (text_Int.j1 kj2 a1 t162 t161))) = some (r1, r2) := H
        have A6 := Aside0.mk A60
        clear A60
        have HC7 := Aside0.mk H
        clear H
        go_upto_if 28 with (first | ((with_reducible refine gate_callee (f := 13) rfl ?_); refine goesL_ (some 24) rfl rfl Tryd.func13 (by kernel_rfl) rfl #[.string a0, .string (⟨#[45]⟩ : ByteArray)] rfl (by (try simp only [List.map_toArray, List.map_cons, List.map_nil]); first | done | rfl | (simp only [List.length_drop, List.length_take]; rfl)) ?_; (with_reducible refine (strings_CutPrefix.calls a0 (⟨#[45]⟩ : ByteArray) t160 t161 _ A6.out).mono ?_); rintro e w' ⟨rfl, ⟨nd, rfl⟩⟩; refine ⟨_, rfl, ?_⟩))
        (try simp only [Act.put, List.setIfInBounds_toArray, List.set_cons_zero, List.set_cons_succ])
        go_cut [6] (fun v6 wc => ∃ (kq : Nat) (x6_6 : ByteArray), v6 = .string x6_6 ∧ Aside0 (text_Int.j1 kq a1 x6_6 t161 = some (r1, r2)) ∧ Aside0 (kq ≤ kj2) ∧ Aside0 (Below w.heap.size w wc))
        case first =>
          have H := HC7.out
          clear HC7
          by_cases c8 : t161 = true
          · subst c8
            have H1 : (text_Int.j1 kj2 a1 t160 true) = some (r1, r2) := by rw [if_pos rfl] at H; exact H
            clear H
            have H := H1
            clear H1
            have H' := Aside0.mk H
            clear H
            go_wp2
            go_meet
            case rel => exact ⟨_, (t160), (by first | rfl | (simp; done) | (simp [*]; done)), H', ⟨by have := HJ2.out; first | omega | exact Nat.le_refl _⟩, ⟨by repeat (first | (with_reducible first | exact HB.out | apply below_alloc | apply pw_below_drewN | apply below_drew1) | exact HB.out)⟩⟩
          · replace c8 := Bool.eq_false_iff.mpr c8
            subst c8
            have H1 : ((strings_TrimPrefix.f a0 (⟨#[43]⟩ : ByteArray)).bind fun t162 => (text_Int.j1 kj2 a1 t162 false)) = some (r1, r2) := by rw [if_neg (show ¬ (false = true) by decide)] at H; exact H
            clear H
            have H := H1
            clear H1
            replace H := Option.bind_eq_some_iff.mp H
            obtain ⟨t162, A90, H⟩ := H
            replace H : (text_Int.j1 kj2 a1 t162 false) = some (r1, r2) := H
            have A9 := Aside0.mk A90
            clear A90
            have H' := Aside0.mk H
            clear H
            go_wp2_with (first | ((with_reducible refine gate_callee (f := 14) rfl ?_); refine goesL_ (some 30) rfl rfl Tryd.func14 (by kernel_rfl) rfl #[.string a0, .string (⟨#[43]⟩ : ByteArray)] rfl (by (try simp only [List.map_toArray, List.map_cons, List.map_nil]); first | done | rfl | (simp only [List.length_drop, List.length_take]; rfl)) ?_; (with_reducible refine (strings_TrimPrefix.calls a0 (⟨#[43]⟩ : ByteArray) t162 _ A9.out).mono ?_); rintro e w' ⟨rfl, ⟨nd, rfl⟩⟩; refine ⟨_, rfl, ?_⟩))
            go_meet
            case rel => exact ⟨_, (t162), (by first | rfl | (simp; done) | (simp [*]; done)), H', ⟨by have := HJ2.out; first | omega | exact Nat.le_refl _⟩, ⟨by repeat (first | (with_reducible first | exact HB.out | apply below_alloc | apply pw_below_drewN | apply below_drew1) | exact HB.out)⟩⟩
        case rest =>
          clear HC7
          try clear c1
          try clear p2
          try clear c4
          try clear c4b0
          try clear c4b1
          try clear c5
          try clear c8
          try clear p2
          obtain ⟨kq, x6_6, rfl, HA, HJ6, HB⟩ := hcut
          cases kq with
          | zero => exact absurd HA.out (by simp [text_Int.j1])
          | succ kj6 =>
            have H := HA.out
            clear HA
            simp only [text_Int.j1] at H
            replace H := Option.bind_eq_some_iff.mp H
            obtain ⟨t163, A100, H⟩ := H
            replace H : (if t163 = true then (some (0, some 3)) else ((strings_CutPrefix.f x6_6 (⟨#[48, 120]⟩ : ByteArray)).bind fun bt164 => (if bt164.2 = true then (text_Int.j2 kj6 a1 bt164.1 t161 16) else (text_Int.j2 kj6 a1 x6_6 t161 10)))) = some (r1, r2) := H
            have A10 := Aside0.mk A100
            clear A100
            by_cases c11 : t163 = true
            · subst c11
              have H1 : (some (0, some 3)) = some (r1, r2) := by rw [if_pos rfl] at H; exact H
              clear H
              have H := H1
              clear H1
              simp only [Option.some.injEq, Prod.mk.injEq] at H
              obtain ⟨rfl, rfl⟩ := H
              go_wp2_with (first | ((with_reducible refine gate_callee (f := 15) rfl ?_); refine goesL_ (some 32) rfl rfl Tryd.func15 (by kernel_rfl) rfl #[.string x6_6] rfl (by (try simp only [List.map_toArray, List.map_cons, List.map_nil]); first | done | rfl | (simp only [List.length_drop, List.length_take]; rfl)) ?_; (with_reducible refine (text_float.calls kj6 x6_6 true _ A10.out).mono ?_); rintro e w12 ⟨rfl, hb⟩; refine ⟨_, rfl, ?_⟩; have n0_ := Aside0.mk (below_step (by repeat (first | (with_reducible first | exact HB.out | apply below_alloc | apply pw_below_drewN | apply below_drew1) | exact HB.out)) hb); clear HB; have HB := n0_; clear n0_; (try clear hb); (try clear hb2); (try clear hk); (try clear hi)))
              go_ret2
              exact ⟨by first | rfl | (simp [errW_none, errW_some] <;> rfl) | (simp [*, errW_none, errW_some] <;> rfl), by repeat (first | (with_reducible first | exact HB.out | apply below_alloc | apply pw_below_drewN | apply below_drew1) | exact HB.out)⟩
            · replace c11 := Bool.eq_false_iff.mpr c11
              subst c11
              have H1 : ((strings_CutPrefix.f x6_6 (⟨#[48, 120]⟩ : ByteArray)).bind fun bt164 => (if bt164.2 = true then (text_Int.j2 kj6 a1 bt164.1 t161 16) else (text_Int.j2 kj6 a1 x6_6 t161 10))) = some (r1, r2) := by rw [if_neg (show ¬ (false = true) by decide)] at H; exact H
              clear H
              have H := H1
              clear H1
              replace H := Option.bind_eq_some_iff.mp H
              obtain ⟨⟨t164, t165⟩, A130, H⟩ := H
              replace H : (if t165 = true then (text_Int.j2 kj6 a1 t164 t161 16) else (text_Int.j2 kj6 a1 x6_6 t161 10)) = some (r1, r2) := H
              have A13 := Aside0.mk A130
              clear A130
              have HC14 := Aside0.mk H
              clear H
              go_upto_if 39 with (first | ((with_reducible refine gate_callee (f := 15) rfl ?_); refine goesL_ (some 32) rfl rfl Tryd.func15 (by kernel_rfl) rfl #[.string x6_6] rfl (by (try simp only [List.map_toArray, List.map_cons, List.map_nil]); first | done | rfl | (simp only [List.length_drop, List.length_take]; rfl)) ?_; (with_reducible refine (text_float.calls kj6 x6_6 false _ A10.out).mono ?_); rintro e w15 ⟨rfl, hb⟩; refine ⟨_, rfl, ?_⟩; have n0_ := Aside0.mk (below_step (by repeat (first | (with_reducible first | exact HB.out | apply below_alloc | apply pw_below_drewN | apply below_drew1) | exact HB.out)) hb); clear HB; have HB := n0_; clear n0_; (try clear hb); (try clear hb2); (try clear hk); (try clear hi)) | ((with_reducible refine gate_callee (f := 13) rfl ?_); refine goesL_ (some 36) rfl rfl Tryd.func13 (by kernel_rfl) rfl #[.string x6_6, .string (⟨#[48, 120]⟩ : ByteArray)] rfl (by (try simp only [List.map_toArray, List.map_cons, List.map_nil]); first | done | rfl | (simp only [List.length_drop, List.length_take]; rfl)) ?_; (with_reducible refine (strings_CutPrefix.calls x6_6 (⟨#[48, 120]⟩ : ByteArray) t164 t165 _ A13.out).mono ?_); rintro e w' ⟨rfl, ⟨nd, rfl⟩⟩; refine ⟨_, rfl, ?_⟩))
              (try simp only [Act.put, List.setIfInBounds_toArray, List.set_cons_zero, List.set_cons_succ])
              go_cut [6, 10] (fun v6 v10 wc => ∃ (kq : Nat) (x6_13 : ByteArray) (x10_13 : Int), v6 = .string x6_13 ∧ v10 = .int .u64 x10_13 ∧ Aside0 (text_Int.j2 kq a1 x6_13 t161 x10_13 = some (r1, r2)) ∧ Aside0 (kq ≤ kj6) ∧ Aside0 (Below w.heap.size w wc))
              case first =>
                have H := HC14.out
                clear HC14
                by_cases c16 : t165 = true
                · subst c16
                  have H1 : (text_Int.j2 kj6 a1 t164 t161 16) = some (r1, r2) := by rw [if_pos rfl] at H; exact H
                  clear H
                  have H := H1
                  clear H1
                  have H' := Aside0.mk H
                  clear H
                  go_wp2
                  go_meet
                  case rel => exact ⟨_, (t164), (16), (by first | rfl | (simp; done) | (simp [*]; done)), (by first | rfl | (simp; done) | (simp [*]; done)), H', ⟨by have := HJ2.out; have := HJ6.out; first | omega | exact Nat.le_refl _⟩, ⟨by repeat (first | (with_reducible first | exact HB.out | apply below_alloc | apply pw_below_drewN | apply below_drew1) | exact HB.out)⟩⟩
                · replace c16 := Bool.eq_false_iff.mpr c16
                  subst c16
                  have H1 : (text_Int.j2 kj6 a1 x6_6 t161 10) = some (r1, r2) := by rw [if_neg (show ¬ (false = true) by decide)] at H; exact H
                  clear H
                  have H := H1
                  clear H1
                  have H' := Aside0.mk H
                  clear H
                  go_wp2
                  go_meet
                  case rel => exact ⟨_, (x6_6), (10), (by first | rfl | (simp; done) | (simp [*]; done)), (by first | rfl | (simp; done) | (simp [*]; done)), H', ⟨by have := HJ2.out; have := HJ6.out; first | omega | exact Nat.le_refl _⟩, ⟨by repeat (first | (with_reducible first | exact HB.out | apply below_alloc | apply pw_below_drewN | apply below_drew1) | exact HB.out)⟩⟩
              case rest =>
                clear HC14
                try clear c1
                try clear p2
                try clear c4
                try clear c4b0
                try clear c4b1
                try clear c5
                try clear c8
                try clear c11
                try clear c13
                try clear c14
                try clear c15
                try clear c16
                try clear p2
                obtain ⟨kq, x6_13, x10_13, rfl, rfl, HA, HJ13, HB⟩ := hcut
                cases kq with
                | zero => exact absurd HA.out (by simp [text_Int.j2])
                | succ kj13 =>
                  have H := HA.out
                  clear HA
                  simp only [text_Int.j2] at H
                  replace H := Option.bind_eq_some_iff.mp H
                  obtain ⟨⟨t166, t167, t168⟩, A170, H⟩ := H
                  replace H : (if 0 ≤ (wrap64 (64 - a1)) then (if t168 = true then (if t167 = true then (if t166 > (shr .u64 18446744073709551615 (wrap64 (64 - a1))) then (text_Int.j3 kj13 t161 t166 (shr .u64 18446744073709551615 (wrap64 (64 - a1))) true) else (if t161 = true then (text_Int.j3 kj13 t161 t166 (shr .u64 18446744073709551615 (wrap64 (64 - a1))) (decide (t166 > (IntKind.u64.wrap (((shr .u64 18446744073709551615 (wrap64 (64 - a1))) / 2) + 1))))) else (text_Int.j3 kj13 t161 t166 (shr .u64 18446744073709551615 (wrap64 (64 - a1))) false))) else (text_Int.j3 kj13 t161 t166 (shr .u64 18446744073709551615 (wrap64 (64 - a1))) true)) else (some (0, some 2))) else (none)) = some (r1, r2) := H
                  have A17 := Aside0.mk A170
                  clear A170
                  obtain ⟨ji18, hji18⟩ : ∃ j_ : Int, (wrap64 (64 - a1)) = j_ := ⟨_, rfl⟩
                  replace H : (if 0 ≤ (ji18) then (if t168 = true then (if t167 = true then (if t166 > (shr .u64 18446744073709551615 (ji18)) then (text_Int.j3 kj13 t161 t166 (shr .u64 18446744073709551615 (ji18)) true) else (if t161 = true then (text_Int.j3 kj13 t161 t166 (shr .u64 18446744073709551615 (ji18)) (decide (t166 > (IntKind.u64.wrap (((shr .u64 18446744073709551615 (ji18)) / 2) + 1))))) else (text_Int.j3 kj13 t161 t166 (shr .u64 18446744073709551615 (ji18)) false))) else (text_Int.j3 kj13 t161 t166 (shr .u64 18446744073709551615 (ji18)) true)) else (some (0, some 2))) else (none)) = some (r1, r2) := by first | (rw [hji18] at H; exact H) | (simp only [hji18] at H ⊢; exact H)
                  (try rw [hji18] at A17)
                  have hji18w : (IntKind.i64.wrap (64 - a1)) = ji18 := (i64_w _).trans hji18
                  by_cases c19 : 0 ≤ (ji18)
                  · rw [if_pos c19] at H
                    have c19b0 := eq_true c19
                    have c19b1 : decide (0 ≤ (ji18)) = true := decide_eq_true c19
                    clear c19
                    obtain ⟨ji20, hji20⟩ : ∃ j_ : Int, (shr .u64 18446744073709551615 (ji18)) = j_ := ⟨_, rfl⟩
                    replace H : (if t168 = true then (if t167 = true then (if t166 > (ji20) then (text_Int.j3 kj13 t161 t166 ji20 true) else (if t161 = true then (text_Int.j3 kj13 t161 t166 ji20 (decide (t166 > (IntKind.u64.wrap (((ji20) / 2) + 1))))) else (text_Int.j3 kj13 t161 t166 ji20 false))) else (text_Int.j3 kj13 t161 t166 ji20 true)) else (some (0, some 2))) = some (r1, r2) := by first | (rw [hji20] at H; exact H) | (simp only [hji20] at H ⊢; exact H)
                    (try rw [hji20] at A17)
                    have hji20_ : (18446744073709551615 / 2 ^ min (ji18).toNat 64) = ji20 := hji20
                    have hji20z : (ji18) ≤ 64 → (18446744073709551615 / 2 ^ (ji18).toNat) = ji20 := shr_small hji20
                    by_cases c21 : t168 = true
                    · subst c21
                      have H1 : (if t167 = true then (if t166 > (ji20) then (text_Int.j3 kj13 t161 t166 ji20 true) else (if t161 = true then (text_Int.j3 kj13 t161 t166 ji20 (decide (t166 > (IntKind.u64.wrap (((ji20) / 2) + 1))))) else (text_Int.j3 kj13 t161 t166 ji20 false))) else (text_Int.j3 kj13 t161 t166 ji20 true)) = some (r1, r2) := by rw [if_pos rfl] at H; exact H
                      clear H
                      have H := H1
                      clear H1
                      have HC22 := Aside0.mk H
                      clear H
                      go_upto_region 16 with (first | ((with_reducible refine gate_callee (f := 16) rfl ?_); refine goesL_ (some 44) rfl rfl Tryd.func16 (by kernel_rfl) rfl #[.string x6_13, .int .u64 x10_13] rfl (by (try simp only [List.map_toArray, List.map_cons, List.map_nil]); first | done | rfl | (simp only [List.length_drop, List.length_take]; rfl)) ?_; (with_reducible refine (text_digits.calls x6_13 x10_13 t166 t167 true _ A17.out).mono ?_); rintro e w' ⟨rfl, ⟨nd, rfl⟩⟩; refine ⟨_, rfl, ?_⟩))
                      (try simp only [Act.put, List.setIfInBounds_toArray, List.set_cons_zero, List.set_cons_succ])
                      go_cut [55] (fun v55 wc => ∃ (kq : Nat) (x55_21 : Bool), v55 = .bool x55_21 ∧ Aside0 (text_Int.j3 kq t161 t166 ji20 x55_21 = some (r1, r2)) ∧ Aside0 (kq ≤ kj13) ∧ Aside0 (Below w.heap.size w wc))
                      case first =>
                        have H := HC22.out
                        clear HC22
                        by_cases c23 : t167 = true
                        · subst c23
                          have H1 : (if t166 > (ji20) then (text_Int.j3 kj13 t161 t166 ji20 true) else (if t161 = true then (text_Int.j3 kj13 t161 t166 ji20 (decide (t166 > (IntKind.u64.wrap (((ji20) / 2) + 1))))) else (text_Int.j3 kj13 t161 t166 ji20 false))) = some (r1, r2) := by rw [if_pos rfl] at H; exact H
                          clear H
                          have H := H1
                          clear H1
                          by_cases c24 : t166 > (ji20)
                          · rw [if_pos c24] at H
                            have c24b0 : decide ((ji20) < t166) = true := decide_eq_true c24
                            clear c24
                            (first | rw [c24b0] | (simp only [i64_w, i32_w]; rw [c24b0]) | skip)
                            have H' := Aside0.mk H
                            clear H
                            go_wp2
                            go_meet
                            case rel => exact ⟨_, (true), (by first | rfl | (simp; done) | (simp [*]; done)), H', ⟨by have := HJ2.out; have := HJ6.out; have := HJ13.out; first | omega | exact Nat.le_refl _⟩, ⟨by repeat (first | (with_reducible first | exact HB.out | apply below_alloc | apply pw_below_drewN | apply below_drew1) | exact HB.out)⟩⟩
                          · rw [if_neg c24] at H
                            have c24b0 : decide ((ji20) < t166) = false := decide_eq_false c24
                            clear c24
                            (first | rw [c24b0] | (simp only [i64_w, i32_w]; rw [c24b0]) | skip)
                            by_cases c25 : t161 = true
                            · subst c25
                              have H1 : (text_Int.j3 kj13 true t166 ji20 (decide (t166 > (IntKind.u64.wrap (((ji20) / 2) + 1))))) = some (r1, r2) := by rw [if_pos rfl] at H; exact H
                              clear H
                              have H := H1
                              clear H1
                              have H' := Aside0.mk H
                              clear H
                              go_wp2
                              go_meet
                              case rel => exact ⟨_, (decide (t166 > (IntKind.u64.wrap (((ji20) / 2) + 1)))), (by first | rfl | (simp; done) | (simp only [← hji20, half_fix] <;> (first | rfl | (simp [half_fix]; done) | simp)) | (simp [*]; done)), H', ⟨by have := HJ2.out; have := HJ6.out; have := HJ13.out; first | omega | exact Nat.le_refl _⟩, ⟨by repeat (first | (with_reducible first | exact HB.out | apply below_alloc | apply pw_below_drewN | apply below_drew1) | exact HB.out)⟩⟩
                            · replace c25 := Bool.eq_false_iff.mpr c25
                              subst c25
                              have H1 : (text_Int.j3 kj13 false t166 ji20 false) = some (r1, r2) := by rw [if_neg (show ¬ (false = true) by decide)] at H; exact H
                              clear H
                              have H := H1
                              clear H1
                              have H' := Aside0.mk H
                              clear H
                              go_wp2
                              go_meet
                              case rel => exact ⟨_, (false), (by first | rfl | (simp; done) | (simp [*]; done)), H', ⟨by have := HJ2.out; have := HJ6.out; have := HJ13.out; first | omega | exact Nat.le_refl _⟩, ⟨by repeat (first | (with_reducible first | exact HB.out | apply below_alloc | apply pw_below_drewN | apply below_drew1) | exact HB.out)⟩⟩
                        · replace c23 := Bool.eq_false_iff.mpr c23
                          subst c23
                          have H1 : (text_Int.j3 kj13 t161 t166 ji20 true) = some (r1, r2) := by rw [if_neg (show ¬ (false = true) by decide)] at H; exact H
                          clear H
                          have H := H1
                          clear H1
                          have H' := Aside0.mk H
                          clear H
                          go_wp2
                          go_meet
                          case rel => exact ⟨_, (true), (by first | rfl | (simp; done) | (simp [*]; done)), H', ⟨by have := HJ2.out; have := HJ6.out; have := HJ13.out; first | omega | exact Nat.le_refl _⟩, ⟨by repeat (first | (with_reducible first | exact HB.out | apply below_alloc | apply pw_below_drewN | apply below_drew1) | exact HB.out)⟩⟩
                      case rest =>
                        clear HC22
                        try clear c1
                        try clear c2
                        try clear p2
                        try clear c4
                        try clear c4b0
                        try clear c4b1
                        try clear c5
                        try clear p6
                        try clear c8
                        try clear c11
                        try clear c13
                        try clear c14
                        try clear c15
                        try clear c16
                        try clear c19
                        try clear c19b0
                        try clear c19b1
                        try clear c21
                        try clear c23
                        try clear c24
                        try clear c24b0
                        try clear c25
                        try clear p2
                        obtain ⟨kq, x55_21, rfl, HA, HJ21, HB⟩ := hcut
                        cases kq with
                        | zero => exact absurd HA.out (by simp [text_Int.j3])
                        | succ kj21 =>
                          have H := HA.out
                          clear HA
                          simp only [text_Int.j3] at H
                          by_cases c26 : x55_21 = true
                          · subst c26
                            have H1 : (some (0, some 7)) = some (r1, r2) := by rw [if_pos rfl] at H; exact H
                            clear H
                            have H := H1
                            clear H1
                            simp only [Option.some.injEq, Prod.mk.injEq] at H
                            obtain ⟨rfl, rfl⟩ := H
                            go_wp2
                            go_ret2
                            exact ⟨by first | rfl | (simp [errW_none, errW_some] <;> rfl) | (simp only [← hji18, ← hji20]; first | rfl | (simp [errW_none, errW_some] <;> rfl)) | (simp [*, errW_none, errW_some] <;> rfl), by repeat (first | (with_reducible first | exact HB.out | apply below_alloc | apply pw_below_drewN | apply below_drew1) | exact HB.out)⟩
                          · replace c26 := Bool.eq_false_iff.mpr c26
                            subst c26
                            have H1 : (if t161 = true then (some (Go.bits .and .u64 (IntKind.u64.wrap (-t166)) ji20, none)) else (some (t166, none))) = some (r1, r2) := by rw [if_neg (show ¬ (false = true) by decide)] at H; exact H
                            clear H
                            have H := H1
                            clear H1
                            by_cases c27 : t161 = true
                            · subst c27
                              have H1 : (some (Go.bits .and .u64 (IntKind.u64.wrap (-t166)) ji20, none)) = some (r1, r2) := by rw [if_pos rfl] at H; exact H
                              clear H
                              have H := H1
                              clear H1
                              simp only [Option.some.injEq, Prod.mk.injEq] at H
                              obtain ⟨rfl, rfl⟩ := H
                              go_wp2
                              go_ret2
                              exact ⟨by first | rfl | (simp [errW_none, errW_some] <;> rfl) | (simp only [← hji18, ← hji20]; first | rfl | (simp [errW_none, errW_some] <;> rfl)) | (simp [*, errW_none, errW_some] <;> rfl), by repeat (first | (with_reducible first | exact HB.out | apply below_alloc | apply pw_below_drewN | apply below_drew1) | exact HB.out)⟩
                            · replace c27 := Bool.eq_false_iff.mpr c27
                              subst c27
                              have H1 : (some (t166, none)) = some (r1, r2) := by rw [if_neg (show ¬ (false = true) by decide)] at H; exact H
                              clear H
                              have H := H1
                              clear H1
                              simp only [Option.some.injEq, Prod.mk.injEq] at H
                              obtain ⟨rfl, rfl⟩ := H
                              go_wp2
                              go_ret2
                              exact ⟨by first | rfl | (simp [errW_none, errW_some] <;> rfl) | (simp only [← hji18, ← hji20]; first | rfl | (simp [errW_none, errW_some] <;> rfl)) | (simp [*, errW_none, errW_some] <;> rfl), by repeat (first | (with_reducible first | exact HB.out | apply below_alloc | apply pw_below_drewN | apply below_drew1) | exact HB.out)⟩
                    · replace c21 := Bool.eq_false_iff.mpr c21
                      subst c21
                      have H1 : (some (0, some 2)) = some (r1, r2) := by rw [if_neg (show ¬ (false = true) by decide)] at H; exact H
                      clear H
                      have H := H1
                      clear H1
                      simp only [Option.some.injEq, Prod.mk.injEq] at H
                      obtain ⟨rfl, rfl⟩ := H
                      go_wp2_with (first | ((with_reducible refine gate_callee (f := 16) rfl ?_); refine goesL_ (some 44) rfl rfl Tryd.func16 (by kernel_rfl) rfl #[.string x6_13, .int .u64 x10_13] rfl (by (try simp only [List.map_toArray, List.map_cons, List.map_nil]); first | done | rfl | (simp only [List.length_drop, List.length_take]; rfl)) ?_; (with_reducible refine (text_digits.calls x6_13 x10_13 t166 t167 false _ A17.out).mono ?_); rintro e w' ⟨rfl, ⟨nd, rfl⟩⟩; refine ⟨_, rfl, ?_⟩))
                      go_ret2
                      exact ⟨by first | rfl | (simp [errW_none, errW_some] <;> rfl) | (simp only [← hji18, ← hji20]; first | rfl | (simp [errW_none, errW_some] <;> rfl)) | (simp [*, errW_none, errW_some] <;> rfl), by repeat (first | (with_reducible first | exact HB.out | apply below_alloc | apply pw_below_drewN | apply below_drew1) | exact HB.out)⟩
                  · rw [if_neg c19] at H
                    exact absurd H (by simp)

-- NOT PRINTED: function 4 (grommetlaw11_up)

end Go.Proofs.YtjenbegobpfclaaDoor.RTextBytes
