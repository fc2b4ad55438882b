-- Made by the program wip/patchprint.py (this session's own, over the kit's print)
import Derived.Test.YtjenbegobpfclaaDoorRTextBytesx0
import Derived.Test.YtjenbegobpfclaaDoorRTextBytesx5
import Derived.Test.YtjenbegobpfclaaDoorRTextBytesx6
namespace Go.Proofs.YtjenbegobpfclaaDoor.RTextBytes
open Go.RowKit Go.Proofs.YtjenbegobpfclaaDoor.Man Go.Proofs.YtjenbegobpfclaaDoorW.PrintWords Go.Proofs.YtjenbegobpfclaaDoorW.PrintLast Go.Proofs.YtjenbegobpfclaaDoorW.PrintMore
attribute [local go_sem] max2_int min2_int max_two min_two max_three min_three max_four min_four   -- for this text's walks alone
set_option linter.unusedVariables false
set_option linter.unusedSimpArgs false
set_option linter.unnecessarySimpa false

attribute [local simp] shl_zero
/-! ### grommetref11_escape: function 10 -/
mutual
def grommetref11_escape.l0 : Nat → ByteArray → ByteArray → ByteArray → Int → Option (List Int × Int)
  | 0, _, _, _, _ => none
  | k + 1, x0, x4, x5, x6 => if x6 < (x4.size : Int) then (if 0 < (x0.size : Int) then (if 0 ≤ x6 then (if (bt x0 0) = (bt x4 x6) then (if x6 < (x5.size : Int) then (some ((([bt x5 x6] : List Int)), 1)) else (none)) else (grommetref11_escape.l0 k x0 x4 x5 (wrap64 (x6 + 1)))) else (none)) else (none)) else (if (x0.size : Int) > 1 then (if 0 < (x0.size : Int) then ((grommetref11_digit.f k (bt x0 0) 16).bind fun t195 => (if t195 ≥ 0 then (if 1 < (x0.size : Int) then ((grommetref11_digit.f k (bt x0 1) 16).bind fun t196 => (grommetref11_escape.j1 k x0 (decide (t196 ≥ 0)))) else (none)) else (grommetref11_escape.j1 k x0 false))) else (none)) else (grommetref11_escape.j1 k x0 false))
def grommetref11_escape.j1 : Nat → ByteArray → Bool → Option (List Int × Int)
  | 0, _, _ => none
  | k + 1, x0, x46 => if x46 = true then (if 0 < (x0.size : Int) then ((grommetref11_digit.f k (bt x0 0) 16).bind fun t197 => (if 1 < (x0.size : Int) then ((grommetref11_digit.f k (bt x0 1) 16).bind fun t198 => (some ((([(wrap64 ((wrap64 (t197 * 16)) + t198)) % 256] : List Int)), 2))) else (none))) else (none)) else ((grommetref11_starts.f x0 (⟨#[117, 123]⟩ : ByteArray)).bind fun t202 => (if t202 = true then (grommetref11_escape.l1 k x0 2) else (some (([] : List Int), 0))))
def grommetref11_escape.j3 : Nat → ByteArray → Int → Option (List Int × Int)
  | 0, _, _ => none
  | k + 1, x0, x8 => if x8 ≥ (x0.size : Int) then (some (([] : List Int), 0)) else (if 2 ≤ x8 then (if x8 ≤ (x0.size : Int) then ((grommetref11_Digits.f k (x0.extract 2 (x8 : Int).toNat) 16).bind fun bt203 => ((grommetref11_value.f k bt203.1 16).bind fun bt207 => (if bt203.2 = true then (if bt207.2 = true then (if bt207.1 > 1114111 then (some (([] : List Int), 0)) else ((grommetref02_Char.f (wrap64 (bt207.1))).bind fun t209 => (if t209 = true then ((grommetref02_Put.f (wrap64 (bt207.1))).bind fun t210 => (some (t210, wrap64 (x8 + 1)))) else (some (([] : List Int), 0))))) else (some (([] : List Int), 0))) else (some (([] : List Int), 0))))) else (none)) else (none))
def grommetref11_escape.l1 : Nat → ByteArray → Int → Option (List Int × Int)
  | 0, _, _ => none
  | k + 1, x0, x8 => if x8 < (x0.size : Int) then (if 0 ≤ x8 then (if (bt x0 x8) = 125 then (grommetref11_escape.j3 k x0 x8) else (grommetref11_escape.l1 k x0 (wrap64 (x8 + 1)))) else (none)) else (grommetref11_escape.j3 k x0 x8)
end
def grommetref11_escape.f (k : Nat) (a0 : ByteArray) : Option (List Int × Int) := if (a0.size : Int) = 0 then (some (([] : List Int), 0)) else (grommetref11_escape.l0 k a0 (⟨#[116, 110, 114, 34, 39, 92]⟩ : ByteArray) (⟨#[9, 10, 13, 34, 39, 92]⟩ : ByteArray) 0)
theorem grommetref11_escape.mono_l : ∀ k, (∀ y0 y1 y2 y3, LeO (grommetref11_escape.l0 k y0 y1 y2 y3) (grommetref11_escape.l0 (k + 1) y0 y1 y2 y3)) ∧ (∀ y0 y1, LeO (grommetref11_escape.j1 k y0 y1) (grommetref11_escape.j1 (k + 1) y0 y1)) ∧ (∀ y0 y1, LeO (grommetref11_escape.j3 k y0 y1) (grommetref11_escape.j3 (k + 1) y0 y1)) ∧ (∀ y0 y1, LeO (grommetref11_escape.l1 k y0 y1) (grommetref11_escape.l1 (k + 1) y0 y1))
  | 0 => ⟨fun _ _ _ _ r h => by simp [grommetref11_escape.l0] at h, fun _ _ r h => by simp [grommetref11_escape.j1] at h, fun _ _ r h => by simp [grommetref11_escape.j3] at h, fun _ _ r h => by simp [grommetref11_escape.l1] at h⟩
  | k + 1 => by
    obtain ⟨ih0, ih1, ih2, ih3⟩ := grommetref11_escape.mono_l k
    refine ⟨?_, ?_, ?_, ?_⟩
    · intro y0 y1 y2 y3
      unfold grommetref11_escape.l0
      repeat' first
      | (with_reducible exact ih0 _ _ _ _)
      | (with_reducible exact ih1 _ _)
      | (with_reducible exact ih2 _ _)
      | (with_reducible exact ih3 _ _)
      | (with_reducible exact grommetref11_Digits.mono _ _ _)
      | (with_reducible exact grommetref11_digit.mono _ _ _)
      | (with_reducible exact grommetref11_value.mono _ _ _)
      | (with_reducible exact LeO.refl _)
      | (with_reducible exact LeO.none _)
      | (with_reducible refine LeO.ite ?_ ?_)
      | (with_reducible refine LeO.bind ?_ (fun _ => ?_))
      | exact ih0 _ _ _ _
      | exact ih1 _ _
      | exact ih2 _ _
      | exact ih3 _ _
      | exact grommetref11_Digits.mono _ _ _
      | exact grommetref11_digit.mono _ _ _
      | exact grommetref11_value.mono _ _ _
      | exact LeO.none _
      | refine LeO.ite ?_ ?_
      | refine LeO.bind ?_ (fun _ => ?_)
    · intro y0 y1
      unfold grommetref11_escape.j1
      repeat' first
      | (with_reducible exact ih0 _ _ _ _)
      | (with_reducible exact ih1 _ _)
      | (with_reducible exact ih2 _ _)
      | (with_reducible exact ih3 _ _)
      | (with_reducible exact grommetref11_Digits.mono _ _ _)
      | (with_reducible exact grommetref11_digit.mono _ _ _)
      | (with_reducible exact grommetref11_value.mono _ _ _)
      | (with_reducible exact LeO.refl _)
      | (with_reducible exact LeO.none _)
      | (with_reducible refine LeO.ite ?_ ?_)
      | (with_reducible refine LeO.bind ?_ (fun _ => ?_))
      | exact ih0 _ _ _ _
      | exact ih1 _ _
      | exact ih2 _ _
      | exact ih3 _ _
      | exact grommetref11_Digits.mono _ _ _
      | exact grommetref11_digit.mono _ _ _
      | exact grommetref11_value.mono _ _ _
      | exact LeO.none _
      | refine LeO.ite ?_ ?_
      | refine LeO.bind ?_ (fun _ => ?_)
    · intro y0 y1
      unfold grommetref11_escape.j3
      repeat' first
      | (with_reducible exact ih0 _ _ _ _)
      | (with_reducible exact ih1 _ _)
      | (with_reducible exact ih2 _ _)
      | (with_reducible exact ih3 _ _)
      | (with_reducible exact grommetref11_Digits.mono _ _ _)
      | (with_reducible exact grommetref11_digit.mono _ _ _)
      | (with_reducible exact grommetref11_value.mono _ _ _)
      | (with_reducible exact LeO.refl _)
      | (with_reducible exact LeO.none _)
      | (with_reducible refine LeO.ite ?_ ?_)
      | (with_reducible refine LeO.bind ?_ (fun _ => ?_))
      | exact ih0 _ _ _ _
      | exact ih1 _ _
      | exact ih2 _ _
      | exact ih3 _ _
      | exact grommetref11_Digits.mono _ _ _
      | exact grommetref11_digit.mono _ _ _
      | exact grommetref11_value.mono _ _ _
      | exact LeO.none _
      | refine LeO.ite ?_ ?_
      | refine LeO.bind ?_ (fun _ => ?_)
    · intro y0 y1
      unfold grommetref11_escape.l1
      repeat' first
      | (with_reducible exact ih0 _ _ _ _)
      | (with_reducible exact ih1 _ _)
      | (with_reducible exact ih2 _ _)
      | (with_reducible exact ih3 _ _)
      | (with_reducible exact grommetref11_Digits.mono _ _ _)
      | (with_reducible exact grommetref11_digit.mono _ _ _)
      | (with_reducible exact grommetref11_value.mono _ _ _)
      | (with_reducible exact LeO.refl _)
      | (with_reducible exact LeO.none _)
      | (with_reducible refine LeO.ite ?_ ?_)
      | (with_reducible refine LeO.bind ?_ (fun _ => ?_))
      | exact ih0 _ _ _ _
      | exact ih1 _ _
      | exact ih2 _ _
      | exact ih3 _ _
      | exact grommetref11_Digits.mono _ _ _
      | exact grommetref11_digit.mono _ _ _
      | exact grommetref11_value.mono _ _ _
      | exact LeO.none _
      | refine LeO.ite ?_ ?_
      | refine LeO.bind ?_ (fun _ => ?_)
theorem grommetref11_escape.mono : ∀ a0 k, LeO (grommetref11_escape.f k a0) (grommetref11_escape.f (k + 1) a0) := by
  intro a0 k
  obtain ⟨ih0, ih1, ih2, ih3⟩ := grommetref11_escape.mono_l k
  unfold grommetref11_escape.f
  repeat' first
      | (with_reducible exact ih0 _ _ _ _)
      | (with_reducible exact ih1 _ _)
      | (with_reducible exact ih2 _ _)
      | (with_reducible exact ih3 _ _)
      | (with_reducible exact grommetref11_Digits.mono _ _ _)
      | (with_reducible exact grommetref11_digit.mono _ _ _)
      | (with_reducible exact grommetref11_value.mono _ _ _)
      | (with_reducible exact LeO.refl _)
      | (with_reducible exact LeO.none _)
      | (with_reducible refine LeO.ite ?_ ?_)
      | (with_reducible refine LeO.bind ?_ (fun _ => ?_))
      | exact ih0 _ _ _ _
      | exact ih1 _ _
      | exact ih2 _ _
      | exact ih3 _ _
      | exact grommetref11_Digits.mono _ _ _
      | exact grommetref11_digit.mono _ _ _
      | exact grommetref11_value.mono _ _ _
      | exact LeO.none _
      | refine LeO.ite ?_ ?_
      | refine LeO.bind ?_ (fun _ => ?_)
def grommetref11_escape.T11 : Bool × List (List Nat × List Nat) := (true, [([], []), ([0], [0]), ([1], [1]), ([2], [2]), ([], []), ([4], [4]), ([5, 2], [5]), ([3, 6], [3, 6]), ([7], [7]), ([8], [8]), ([9, 6, 0, 1, 2, 3, 4, 5, 6, 7, 8, 9], [9]), ([10, 0, 1, 2, 3, 4, 5, 6, 7, 8, 9, 10], [])])
def grommetref11_escape.B11 : List Nat := [0, 1, 3, 7, 0, 16, 55, 127, 255, 511, 1023, 2047]
theorem grommetref11_escape.tab11 : rtab .any (opsOf Tryd.f10 11) = grommetref11_escape.T11 := by kernel_rfl
theorem grommetref11_escape.bits11 : waitsOk grommetref11_escape.T11.2 grommetref11_escape.B11 = true := by kernel_rfl
set_option maxHeartbeats 8000000 in
set_option maxRecDepth 100000 in
theorem grommetref11_escape.calls (k : Nat) (a0 : ByteArray) (r1 : List Int) (r2 : Int) (w : World) (h : grommetref11_escape.f k a0 = some (r1, r2)) :
    Calls Tryd.prog 10 #[.string a0] w fun e w' => ∃ v0_ : Value, e = .returned (.tuple #[v0_, .int .i64 r2]) ∧ Kd.R (Kd.int .u8) 5 w' w.heap.size (fun _ => True) v0_ r1 ∧ Below w.heap.size w w' := by
  have HB := Aside0.mk (Below.refl w.heap.size w)
  have H : (if (a0.size : Int) = 0 then (some (([] : List Int), 0)) else (grommetref11_escape.l0 k a0 (⟨#[116, 110, 114, 34, 39, 92]⟩ : ByteArray) (⟨#[9, 10, 13, 34, 39, 92]⟩ : ByteArray) 0)) = some (r1, r2) := h
  clear h
  by_cases c2 : (a0.size : Int) = 0
  · rw [if_pos c2] at H
    have c2b0 : ((a0.size : Int) == 0) = true := beq_iff_eq.mpr c2
    have c2b1 : ((a0.size : Int) != 0) = false := bne_eq_false_iff_eq.mpr c2
    clear c2
    simp only [Option.some.injEq, Prod.mk.injEq] at H
    obtain ⟨rfl, rfl⟩ := H
    go_enter Tryd.func10, Tryd.ntmps10
    go_wp2
    go_ret2
    exact ⟨_, by first | rfl | (simp [errW_none, errW_some] <;> rfl) | (simp [*, errW_none, errW_some] <;> rfl), by first | exact Kd.R_nil _ _ _ _ _ | exact Kd.N_nil _ _ _ _ _ | exact Kd.V_nil _ _ _ _ _ | exact Kd.Q_nil _ _ _ _ _ | exact Kd.S_nil _ _ _ _ _, by repeat (first | (with_reducible first | exact HB.out | apply below_alloc | apply pw_below_drewN | apply below_drew1) | exact HB.out)⟩
  · rw [if_neg c2] at H
    have c2b0 : ((a0.size : Int) == 0) = false := beq_eq_false_iff_ne.mpr c2
    have c2b1 : ((a0.size : Int) != 0) = true := bne_iff_ne.mpr c2
    have H' := Aside0.mk H
    clear H
    go_enter Tryd.func10, Tryd.ntmps10
    go_wp2
    go_loopg [6] k (fun kq v6 w' => ∃ (x6_1 : Int), v6 = .int .i64 x6_1 ∧ Aside0 (grommetref11_escape.l0 kq a0 (⟨#[116, 110, 114, 34, 39, 92]⟩ : ByteArray) (⟨#[9, 10, 13, 34, 39, 92]⟩ : ByteArray) x6_1 = some (r1, r2)) ∧ Aside0 (kq ≤ k) ∧ Aside0 (Below w.heap.size w w'))
    case atStart => exact ⟨(0), (by first | rfl | (simp; done) | (simp [*]; done)), H', ⟨Nat.le_refl _⟩, ⟨by repeat (first | (with_reducible first | exact HB.out | apply below_alloc | apply pw_below_drewN | apply below_drew1) | exact HB.out)⟩⟩
    case round =>
      clear H'
      try clear c1
      try clear c2
      try clear c2b0
      try clear c2b1
      try clear p2
      obtain ⟨x6_1, rfl, HA, HK1, HB⟩ := hrel
      cases gk with
      | zero => exact absurd HA.out (by simp [grommetref11_escape.l0])
      | succ k1 =>
        have H := HA.out
        clear HA
        simp only [grommetref11_escape.l0] at H
        by_cases c3 : x6_1 < ((⟨#[116, 110, 114, 34, 39, 92]⟩ : ByteArray).size : Int)
        · rw [if_pos c3] at H
          have c3b0 : decide (x6_1 < ((⟨#[116, 110, 114, 34, 39, 92]⟩ : ByteArray).size : Int)) = true := decide_eq_true c3
          have c3b09 : decide (x6_1 < (6 : Int)) = true := c3b0
          clear c3
          by_cases c4 : 0 < (a0.size : Int)
          · rw [if_pos c4] at H
            have c4b0 : decide (0 < (a0.size : Int)) = true := decide_eq_true c4
            have c4b1 : decide (0 < a0.size) = true := decide_eq_true (by omega)
            clear c4
            by_cases c6 : 0 ≤ x6_1
            · rw [if_pos c6] at H
              have c6b0 : decide (0 ≤ x6_1) = true := decide_eq_true c6
              clear c6
              by_cases c8 : (bt a0 0) = (bt (⟨#[116, 110, 114, 34, 39, 92]⟩ : ByteArray) x6_1)
              · rw [if_pos c8] at H
                have c8b0 : ((bt a0 0) == (bt (⟨#[116, 110, 114, 34, 39, 92]⟩ : ByteArray) x6_1)) = true := beq_iff_eq.mpr c8
                have c8b1 : ((bt a0 0) != (bt (⟨#[116, 110, 114, 34, 39, 92]⟩ : ByteArray) x6_1)) = false := bne_eq_false_iff_eq.mpr c8
                clear c8
                by_cases c9 : x6_1 < ((⟨#[9, 10, 13, 34, 39, 92]⟩ : ByteArray).size : Int)
                · rw [if_pos c9] at H
                  have c9b0 : decide (x6_1 < ((⟨#[9, 10, 13, 34, 39, 92]⟩ : ByteArray).size : Int)) = true := decide_eq_true c9
                  have c9b09 : decide (x6_1 < (6 : Int)) = true := c9b0
                  clear c9
                  obtain ⟨y192, hy192⟩ : ∃ y_ : List Int, y_ = (([bt (⟨#[9, 10, 13, 34, 39, 92]⟩ : ByteArray) x6_1] : List Int)) := ⟨_, rfl⟩
                  replace H : (some (y192, 1)) = some (r1, r2) := by first | (rw [hy192]; with_reducible exact H) | (have H2_ := (Option.bind_some _ _).symm.trans H; rw [hy192]; with_reducible exact H2_) | (have H2_ := (Option.bind_some _ _).symm.trans H; with_reducible exact H2_) | with_reducible exact H | (rw [hy192]; exact H) | exact H
                  have Ny192 := Aside0.mk hy192
                  clear hy192
                  simp only [Option.some.injEq, Prod.mk.injEq] at H
                  obtain ⟨rfl, rfl⟩ := H
                  try go_wp2
                  have n0_ := Aside0.mk (below_drew1 HB.out)
                  clear HB
                  have HB := n0_
                  clear n0_
                  have p5 : 0 ≤ (0 : Int) := (by omega)
                  have q5 : 0 < a0.size := (by have : (0 : Int) < (a0.size : Int) := of_decide_eq_true (by first | (with_reducible assumption) | assumption); omega)
                  have hx5 : ∀ h : 0 < a0.size, ((a0[0]'h).toNat : Int) = bt a0 0 := bt_at a0 0
                  clear p5
                  have qi5 : (0 < (a0.size : Int)) = True := eq_true (of_decide_eq_true (by first | (with_reducible assumption) | assumption))
                  replace q5 := eq_true q5
                  have p7 : 0 ≤ (x6_1 : Int) := of_decide_eq_true (by first | (with_reducible assumption) | assumption)
                  have q7 : x6_1 < (6 : Int) := of_decide_eq_true (by first | (with_reducible assumption) | assumption)
                  have hx7 := bt_at (⟨#[116, 110, 114, 34, 39, 92]⟩ : ByteArray) x6_1
                  replace p7 := eq_true p7
                  replace q7 := eq_true q7
                  refine start_ (n := 6) (S := fun w' => True) (ds := []) #[false, false, false, false, false, false] (by kernel_rfl) rfl rfl trivial (fun hHeld => ?_)
                  generalize wr.drew = w11 at HB hHeld ⊢
                  refine pure_ (i := 0) (N := some 22) (v := ?_) (a' := ?_) #[true, false, false, false, false, false] rfl rfl (by kernel_rfl) (fun _ _ _ h => h) (Or.inl ⟨by rfl, ?_⟩) ?_ ?_
                  rotate_left
                  · intro w'
                    go_simp
                    with_reducible rfl
                  rotate_left
                  · simp only [Act.put, List.setIfInBounds_toArray, List.set_cons_zero, List.set_cons_succ, i64_w, i32_w]
                    rfl
                  refine pure_ (i := 2) (N := some 24) (v := ?_) (a' := ?_) #[true, false, true, false, false, false] rfl rfl (by kernel_rfl) (fun _ _ _ h => h) (Or.inl ⟨by rfl, ?_⟩) ?_ ?_
                  rotate_left
                  · intro w'
                    go_simp
                    with_reducible rfl
                  rotate_left
                  · simp only [Act.put, List.setIfInBounds_toArray, List.set_cons_zero, List.set_cons_succ, i64_w, i32_w]
                    rfl
                  refine pure_ (i := 3) (N := some 25) (v := ?_) (a' := ?_) #[true, false, true, true, false, false] rfl rfl (by kernel_rfl) (fun _ _ _ h => h) (Or.inl ⟨by rfl, ?_⟩) ?_ ?_
                  rotate_left
                  · intro w'
                    go_simp
                    with_reducible rfl
                  rotate_left
                  · simp only [Act.put, List.setIfInBounds_toArray, List.set_cons_zero, List.set_cons_succ, i64_w, i32_w]
                    rfl
                  refine take_ (i := 1) (N := some 23) (v := ?_) (a' := ?_) #[true, true, true, true, false, false] rfl rfl (by kernel_rfl) (fun _ _ _ h => h) (Or.inl ⟨by rfl, ?_⟩) hHeld ?_ ?_
                  rotate_left
                  · intro w' _
                    go_simp
                    with_reducible rfl
                  rotate_left
                  · simp only [Act.put, List.setIfInBounds_toArray, List.set_cons_zero, List.set_cons_succ, i64_w, i32_w]
                    rfl
                  refine take_ (i := 4) (N := some 26) (v := ?_) (a' := ?_) #[true, true, true, true, true, false] rfl rfl (by kernel_rfl) (fun _ _ _ h => h) (Or.inl ⟨by rfl, ?_⟩) hHeld ?_ ?_
                  rotate_left
                  · intro w' _
                    go_simp
                    with_reducible rfl
                  rotate_left
                  · simp only [Act.put, List.setIfInBounds_toArray, List.set_cons_zero, List.set_cons_succ, i64_w, i32_w]
                    rfl
                  refine pure_ (i := 5) (N := some 27) (v := ?_) (a' := ?_) #[true, true, true, true, true, true] rfl rfl (by kernel_rfl) (fun _ _ _ h => h) (Or.inl ⟨by rfl, ?_⟩) ?_ ?_
                  rotate_left
                  · intro w'
                    go_simp
                    with_reducible rfl
                  rotate_left
                  · simp only [Act.put, List.setIfInBounds_toArray, List.set_cons_zero, List.set_cons_succ, i64_w, i32_w]
                    rfl
                  refine done_ (by kernel_rfl) ?_
                  have p10 : 0 ≤ (x6_1 : Int) := of_decide_eq_true (by first | (with_reducible assumption) | assumption)
                  have q10 : x6_1 < (6 : Int) := of_decide_eq_true (by first | (with_reducible assumption) | assumption)
                  have hx10 := bt_at (⟨#[9, 10, 13, 34, 39, 92]⟩ : ByteArray) x6_1
                  replace p10 := eq_true p10
                  replace q10 := eq_true q10
                  try go_wp2_with (first | ((with_reducible refine gate_dst (N := 31) rfl ?_); refine Kd.R_lit (Kd.int .u8) _ 5 ?hg (N := 31) ?hd (xs := ([bt (⟨#[9, 10, 13, 34, 39, 92]⟩ : ByteArray) x6_1] : List Int)) (inner := [.int .u8 (bt (⟨#[9, 10, 13, 34, 39, 92]⟩ : ByteArray) x6_1)]) (ok := fun _ => True) (okp := fun _ => True) ?hr ?hp (fun _ hk => hk) trivial (Below.refl _ _) (Nat.le_refl _) (by simp) ?_; (case hd => rfl); (case hg => rfl); (case hr => first | (go_simp; done) | (go_simp; rfl)); (case hp => exact (Reps.one (show Kd.M (Kd.int .u8) _ _ _ (bt (⟨#[9, 10, 13, 34, 39, 92]⟩ : ByteArray) x6_1) [.int .u8 (bt (⟨#[9, 10, 13, 34, 39, 92]⟩ : ByteArray) x6_1)] from rfl) (Reps.none _ _))); intro v193 w12 ho13 hb hg_ hnew_; clear hg_ hnew_; (first | rw [← Ny192.out] at ho13 | (simp only [Int.reduceToNat] at ho13; rw [← Ny192.out] at ho13)); have n0_ := Aside0.mk (Kd.R_lower ho13 (below_size (by repeat (first | (with_reducible first | exact HB.out | apply below_alloc | apply pw_below_drewN | apply below_drew1) | exact HB.out)))); have n1_ := Aside0.mk (below_step (by repeat (first | (with_reducible first | exact HB.out | apply below_alloc | apply pw_below_drewN | apply below_drew1) | exact HB.out)) hb); clear HB; have HO194 := n0_; have HB := n1_; clear n0_ n1_; clear hb ho13))
                  go_ret2
                  exact ⟨_, by first | rfl | (simp [errW_none, errW_some] <;> rfl) | (simp [*, errW_none, errW_some] <;> rfl), by (with_reducible repeat (first | apply Kd.R_alloc | apply Kd.R_drewN | apply Kd.R_drew)); exact HO194.out, by repeat (first | (with_reducible first | exact HB.out | apply below_alloc | apply pw_below_drewN | apply below_drew1) | exact HB.out)⟩
                · rw [if_neg c9] at H
                  exact absurd H (by simp)
              · rw [if_neg c8] at H
                have c8b0 : ((bt a0 0) == (bt (⟨#[116, 110, 114, 34, 39, 92]⟩ : ByteArray) x6_1)) = false := beq_eq_false_iff_ne.mpr c8
                have c8b1 : ((bt a0 0) != (bt (⟨#[116, 110, 114, 34, 39, 92]⟩ : ByteArray) x6_1)) = true := bne_iff_ne.mpr c8
                have H' := Aside0.mk H
                clear H
                try go_wp2
                have n0_ := Aside0.mk (below_drew1 HB.out)
                clear HB
                have HB := n0_
                clear n0_
                have p5 : 0 ≤ (0 : Int) := (by omega)
                have q5 : 0 < a0.size := (by have : (0 : Int) < (a0.size : Int) := of_decide_eq_true (by first | (with_reducible assumption) | assumption); omega)
                have hx5 : ∀ h : 0 < a0.size, ((a0[0]'h).toNat : Int) = bt a0 0 := bt_at a0 0
                clear p5
                have qi5 : (0 < (a0.size : Int)) = True := eq_true (of_decide_eq_true (by first | (with_reducible assumption) | assumption))
                replace q5 := eq_true q5
                have p7 : 0 ≤ (x6_1 : Int) := of_decide_eq_true (by first | (with_reducible assumption) | assumption)
                have q7 : x6_1 < (6 : Int) := of_decide_eq_true (by first | (with_reducible assumption) | assumption)
                have hx7 := bt_at (⟨#[116, 110, 114, 34, 39, 92]⟩ : ByteArray) x6_1
                replace p7 := eq_true p7
                replace q7 := eq_true q7
                refine start_ (n := 6) (S := fun w' => True) (ds := []) #[false, false, false, false, false, false] (by kernel_rfl) rfl rfl trivial (fun hHeld => ?_)
                generalize wr.drew = w14 at HB hHeld ⊢
                refine pure_ (i := 0) (N := some 22) (v := ?_) (a' := ?_) #[true, false, false, false, false, false] rfl rfl (by kernel_rfl) (fun _ _ _ h => h) (Or.inl ⟨by rfl, ?_⟩) ?_ ?_
                rotate_left
                · intro w'
                  go_simp
                  with_reducible rfl
                rotate_left
                · simp only [Act.put, List.setIfInBounds_toArray, List.set_cons_zero, List.set_cons_succ, i64_w, i32_w]
                  rfl
                refine pure_ (i := 2) (N := some 24) (v := ?_) (a' := ?_) #[true, false, true, false, false, false] rfl rfl (by kernel_rfl) (fun _ _ _ h => h) (Or.inl ⟨by rfl, ?_⟩) ?_ ?_
                rotate_left
                · intro w'
                  go_simp
                  with_reducible rfl
                rotate_left
                · simp only [Act.put, List.setIfInBounds_toArray, List.set_cons_zero, List.set_cons_succ, i64_w, i32_w]
                  rfl
                refine pure_ (i := 3) (N := some 25) (v := ?_) (a' := ?_) #[true, false, true, true, false, false] rfl rfl (by kernel_rfl) (fun _ _ _ h => h) (Or.inl ⟨by rfl, ?_⟩) ?_ ?_
                rotate_left
                · intro w'
                  go_simp
                  with_reducible rfl
                rotate_left
                · simp only [Act.put, List.setIfInBounds_toArray, List.set_cons_zero, List.set_cons_succ, i64_w, i32_w]
                  rfl
                refine take_ (i := 1) (N := some 23) (v := ?_) (a' := ?_) #[true, true, true, true, false, false] rfl rfl (by kernel_rfl) (fun _ _ _ h => h) (Or.inl ⟨by rfl, ?_⟩) hHeld ?_ ?_
                rotate_left
                · intro w' _
                  go_simp
                  with_reducible rfl
                rotate_left
                · simp only [Act.put, List.setIfInBounds_toArray, List.set_cons_zero, List.set_cons_succ, i64_w, i32_w]
                  rfl
                refine take_ (i := 4) (N := some 26) (v := ?_) (a' := ?_) #[true, true, true, true, true, false] rfl rfl (by kernel_rfl) (fun _ _ _ h => h) (Or.inl ⟨by rfl, ?_⟩) hHeld ?_ ?_
                rotate_left
                · intro w' _
                  go_simp
                  with_reducible rfl
                rotate_left
                · simp only [Act.put, List.setIfInBounds_toArray, List.set_cons_zero, List.set_cons_succ, i64_w, i32_w]
                  rfl
                refine pure_ (i := 5) (N := some 27) (v := ?_) (a' := ?_) #[true, true, true, true, true, true] rfl rfl (by kernel_rfl) (fun _ _ _ h => h) (Or.inl ⟨by rfl, ?_⟩) ?_ ?_
                rotate_left
                · intro w'
                  go_simp
                  with_reducible rfl
                rotate_left
                · simp only [Act.put, List.setIfInBounds_toArray, List.set_cons_zero, List.set_cons_succ, i64_w, i32_w]
                  rfl
                refine done_ (by kernel_rfl) ?_
                try go_wp2
                go_roundg k1
                case measure => have := HK1.out; omega
                case rel => exact ⟨(wrap64 (x6_1 + 1)), (by first | rfl | (simp; done) | (simp [*]; done)), H', ⟨by have := HK1.out; omega⟩, ⟨by repeat (first | (with_reducible first | exact HB.out | apply below_alloc | apply pw_below_drewN | apply below_drew1) | exact HB.out)⟩⟩
            · rw [if_neg c6] at H
              exact absurd H (by simp)
          · rw [if_neg c4] at H
            exact absurd H (by simp)
        · rw [if_neg c3] at H
          have c3b0 : decide (x6_1 < ((⟨#[116, 110, 114, 34, 39, 92]⟩ : ByteArray).size : Int)) = false := decide_eq_false c3
          have c3b09 : decide (x6_1 < (6 : Int)) = false := c3b0
          clear c3
          have HC15 := Aside0.mk H
          clear H
          go_upto_region 10 with (fail)
          go_cut [46] (fun v46 wc => ∃ (kq : Nat) (x46_14 : Bool), v46 = .bool x46_14 ∧ Aside0 (grommetref11_escape.j1 kq a0 x46_14 = some (r1, r2)) ∧ Aside0 (kq ≤ k1) ∧ Aside0 (Below w.heap.size w wc))
          case first =>
            have H := HC15.out
            clear HC15
            by_cases c16 : (a0.size : Int) > 1
            · rw [if_pos c16] at H
              have c16b0 : decide (1 < (a0.size : Int)) = true := decide_eq_true c16
              have c16b1 : decide (1 < a0.size) = true := decide_eq_true (by omega)
              clear c16
              (first | rw [c16b0] | (simp only [i64_w, i32_w]; rw [c16b0]) | skip)
              by_cases c17 : 0 < (a0.size : Int)
              · rw [if_pos c17] at H
                have c17b0 : decide (0 < (a0.size : Int)) = true := decide_eq_true c17
                have c17b1 : decide (0 < a0.size) = true := decide_eq_true (by omega)
                clear c17
                replace H := Option.bind_eq_some_iff.mp H
                obtain ⟨t195, A190, H⟩ := H
                replace H : (if t195 ≥ 0 then (if 1 < (a0.size : Int) then ((grommetref11_digit.f k1 (bt a0 1) 16).bind fun t196 => (grommetref11_escape.j1 k1 a0 (decide (t196 ≥ 0)))) else (none)) else (grommetref11_escape.j1 k1 a0 false)) = some (r1, r2) := H
                have A19 := Aside0.mk A190
                clear A190
                by_cases c20 : t195 ≥ 0
                · rw [if_pos c20] at H
                  have c20b0 : decide (0 ≤ t195) = true := decide_eq_true c20
                  clear c20
                  by_cases c21 : 1 < (a0.size : Int)
                  · rw [if_pos c21] at H
                    have c21b0 : decide (1 < (a0.size : Int)) = true := decide_eq_true c21
                    have c21b1 : decide (1 < a0.size) = true := decide_eq_true (by omega)
                    clear c21
                    replace H := Option.bind_eq_some_iff.mp H
                    obtain ⟨t196, A230, H⟩ := H
                    replace H : (grommetref11_escape.j1 k1 a0 (decide (t196 ≥ 0))) = some (r1, r2) := H
                    have A23 := Aside0.mk A230
                    clear A230
                    have H' := Aside0.mk H
                    clear H
                    have p18 : 0 ≤ (0 : Int) := (by omega)
                    have q18 : 0 < a0.size := (by have : (0 : Int) < (a0.size : Int) := of_decide_eq_true (by first | (with_reducible assumption) | assumption); omega)
                    have hx18 : ∀ h : 0 < a0.size, ((a0[0]'h).toNat : Int) = bt a0 0 := bt_at a0 0
                    clear p18
                    have qi18 : (0 < (a0.size : Int)) = True := eq_true (of_decide_eq_true (by first | (with_reducible assumption) | assumption))
                    replace q18 := eq_true q18
                    go_wp2_with (first | (go_at_call 19; (with_reducible refine (grommetref11_digit.calls k1 (bt a0 0) 16 t195 _ A19.out).mono ?_); rintro e w' ⟨rfl, ⟨nd, rfl⟩⟩; have p22 : 0 ≤ (1 : Int) := (by omega); have q22 : 1 < a0.size := (by have : (1 : Int) < (a0.size : Int) := of_decide_eq_true (by first | (with_reducible assumption) | assumption); omega); have hx22 : ∀ h : 1 < a0.size, ((a0[1]'h).toNat : Int) = bt a0 1 := bt_at a0 1; clear p22; have qi22 : (1 < (a0.size : Int)) = True := eq_true (of_decide_eq_true (by first | (with_reducible assumption) | assumption)); replace q22 := eq_true q22) | (go_at_call 19; (with_reducible refine (grommetref11_digit.calls k1 (bt a0 1) 16 t196 _ A23.out).mono ?_); rintro e w' ⟨rfl, ⟨nd, rfl⟩⟩))
                    go_meet
                    case rel => exact ⟨_, (decide (t196 ≥ 0)), (by first | rfl | (simp; done) | (simp [*]; done)), H', ⟨by have := HK1.out; first | omega | exact Nat.le_refl _⟩, ⟨by repeat (first | (with_reducible first | exact HB.out | apply below_alloc | apply pw_below_drewN | apply below_drew1) | exact HB.out)⟩⟩
                  · rw [if_neg c21] at H
                    exact absurd H (by simp)
                · rw [if_neg c20] at H
                  have c20b0 : decide (0 ≤ t195) = false := decide_eq_false c20
                  clear c20
                  have H' := Aside0.mk H
                  clear H
                  have p18 : 0 ≤ (0 : Int) := (by omega)
                  have q18 : 0 < a0.size := (by have : (0 : Int) < (a0.size : Int) := of_decide_eq_true (by first | (with_reducible assumption) | assumption); omega)
                  have hx18 : ∀ h : 0 < a0.size, ((a0[0]'h).toNat : Int) = bt a0 0 := bt_at a0 0
                  clear p18
                  have qi18 : (0 < (a0.size : Int)) = True := eq_true (of_decide_eq_true (by first | (with_reducible assumption) | assumption))
                  replace q18 := eq_true q18
                  go_wp2_with (first | (go_at_call 19; (with_reducible refine (grommetref11_digit.calls k1 (bt a0 0) 16 t195 _ A19.out).mono ?_); rintro e w' ⟨rfl, ⟨nd, rfl⟩⟩))
                  go_meet
                  case rel => exact ⟨_, (false), (by first | rfl | (simp; done) | (simp [*]; done)), H', ⟨by have := HK1.out; first | omega | exact Nat.le_refl _⟩, ⟨by repeat (first | (with_reducible first | exact HB.out | apply below_alloc | apply pw_below_drewN | apply below_drew1) | exact HB.out)⟩⟩
              · rw [if_neg c17] at H
                exact absurd H (by simp)
            · rw [if_neg c16] at H
              have c16b0 : decide (1 < (a0.size : Int)) = false := decide_eq_false c16
              have c16b1 : decide (1 < a0.size) = false := decide_eq_false (by omega)
              clear c16
              (first | rw [c16b0] | (simp only [i64_w, i32_w]; rw [c16b0]) | skip)
              have H' := Aside0.mk H
              clear H
              go_wp2
              go_meet
              case rel => exact ⟨_, (false), (by first | rfl | (simp; done) | (simp [*]; done)), H', ⟨by have := HK1.out; first | omega | exact Nat.le_refl _⟩, ⟨by repeat (first | (with_reducible first | exact HB.out | apply below_alloc | apply pw_below_drewN | apply below_drew1) | exact HB.out)⟩⟩
          case rest =>
            clear HC15
            try clear c1
            try clear p1
            try clear q1
            try clear hx1
            try clear qi1
            try clear c2
            try clear c2b0
            try clear c2b1
            try clear p2
            try clear q2
            try clear hx2
            try clear qi2
            try clear c3
            try clear c3b0
            try clear c4
            try clear c4b0
            try clear c4b1
            try clear p5
            try clear q5
            try clear hx5
            try clear qi5
            try clear c6
            try clear c6b0
            try clear p6
            try clear p7
            try clear q7
            try clear hx7
            try clear c8
            try clear c8b0
            try clear c8b1
            try clear c9
            try clear c9b0
            try clear c10
            try clear p10
            try clear q10
            try clear hx10
            try clear c16
            try clear c16b0
            try clear c16b1
            try clear c17
            try clear c17b0
            try clear c17b1
            try clear p18
            try clear q18
            try clear hx18
            try clear qi18
            try clear c20
            try clear c20b0
            try clear c21
            try clear c21b0
            try clear c21b1
            try clear p22
            try clear q22
            try clear hx22
            try clear qi22
            try clear p10
            try clear p18
            try clear p2
            try clear p22
            try clear p5
            try clear p7
            try clear q10
            try clear q18
            try clear q22
            try clear q5
            try clear q7
            obtain ⟨kq, x46_14, rfl, HA, HJ14, HB⟩ := hcut
            cases kq with
            | zero => exact absurd HA.out (by simp [grommetref11_escape.j1])
            | succ kj14 =>
              have H := HA.out
              clear HA
              simp only [grommetref11_escape.j1] at H
              by_cases c24 : x46_14 = true
              · subst c24
                have H1 : (if 0 < (a0.size : Int) then ((grommetref11_digit.f kj14 (bt a0 0) 16).bind fun t197 => (if 1 < (a0.size : Int) then ((grommetref11_digit.f kj14 (bt a0 1) 16).bind fun t198 => (some ((([(wrap64 ((wrap64 (t197 * 16)) + t198)) % 256] : List Int)), 2))) else (none))) else (none)) = some (r1, r2) := by rw [if_pos rfl] at H; exact H
                clear H
                have H := H1
                clear H1
                by_cases c25 : 0 < (a0.size : Int)
                · rw [if_pos c25] at H
                  have c25b0 : decide (0 < (a0.size : Int)) = true := decide_eq_true c25
                  have c25b1 : decide (0 < a0.size) = true := decide_eq_true (by omega)
                  clear c25
                  replace H := Option.bind_eq_some_iff.mp H
                  obtain ⟨t197, A270, H⟩ := H
                  replace H : (if 1 < (a0.size : Int) then ((grommetref11_digit.f kj14 (bt a0 1) 16).bind fun t198 => (some ((([(wrap64 ((wrap64 (t197 * 16)) + t198)) % 256] : List Int)), 2))) else (none)) = some (r1, r2) := H
                  have A27 := Aside0.mk A270
                  clear A270
                  by_cases c28 : 1 < (a0.size : Int)
                  · rw [if_pos c28] at H
                    have c28b0 : decide (1 < (a0.size : Int)) = true := decide_eq_true c28
                    have c28b1 : decide (1 < a0.size) = true := decide_eq_true (by omega)
                    clear c28
                    replace H := Option.bind_eq_some_iff.mp H
                    obtain ⟨t198, A300, H⟩ := H
                    replace H : (some ((([(wrap64 ((wrap64 (t197 * 16)) + t198)) % 256] : List Int)), 2)) = some (r1, r2) := H
                    have A30 := Aside0.mk A300
                    clear A300
                    obtain ⟨y199, hy199⟩ : ∃ y_ : List Int, y_ = (([(wrap64 ((wrap64 (t197 * 16)) + t198)) % 256] : List Int)) := ⟨_, rfl⟩
                    replace H : (some (y199, 2)) = some (r1, r2) := by first | (rw [hy199]; with_reducible exact H) | (have H2_ := (Option.bind_some _ _).symm.trans H; rw [hy199]; with_reducible exact H2_) | (have H2_ := (Option.bind_some _ _).symm.trans H; with_reducible exact H2_) | with_reducible exact H | (rw [hy199]; exact H) | exact H
                    have Ny199 := Aside0.mk hy199
                    clear hy199
                    simp only [Option.some.injEq, Prod.mk.injEq] at H
                    obtain ⟨rfl, rfl⟩ := H
                    try go_wp2
                    have n0_ := Aside0.mk (below_drew1 HB.out)
                    clear HB
                    have HB := n0_
                    clear n0_
                    have p26 : 0 ≤ (0 : Int) := (by omega)
                    have q26 : 0 < a0.size := (by have : (0 : Int) < (a0.size : Int) := of_decide_eq_true (by first | (with_reducible assumption) | assumption); omega)
                    have hx26 : ∀ h : 0 < a0.size, ((a0[0]'h).toNat : Int) = bt a0 0 := bt_at a0 0
                    clear p26
                    have qi26 : (0 < (a0.size : Int)) = True := eq_true (of_decide_eq_true (by first | (with_reducible assumption) | assumption))
                    replace q26 := eq_true q26
                    have p29 : 0 ≤ (1 : Int) := (by omega)
                    have q29 : 1 < a0.size := (by have : (1 : Int) < (a0.size : Int) := of_decide_eq_true (by first | (with_reducible assumption) | assumption); omega)
                    have hx29 : ∀ h : 1 < a0.size, ((a0[1]'h).toNat : Int) = bt a0 1 := bt_at a0 1
                    clear p29
                    have qi29 : (1 < (a0.size : Int)) = True := eq_true (of_decide_eq_true (by first | (with_reducible assumption) | assumption))
                    replace q29 := eq_true q29
                    refine start_ (n := 12) (S := fun w' => True) (ds := []) #[false, false, false, false, false, false, false, false, false, false, false, false] (by kernel_rfl) rfl rfl trivial (fun hHeld => ?_); refine with_tabW grommetref11_escape.tab11 grommetref11_escape.bits11 (fun HT_ HW_ => ?_)
                    generalize wc.drew = w31 at HB hHeld ⊢
                    refine pure_ (i := 0) (N := some 47) (v := ?_) (a' := ?_) #[true, false, false, false, false, false, false, false, false, false, false, false] rfl rfl (any_of HT_.out (by kernel_rfl)) (fun _ _ _ h => h) (Or.inl ⟨by rfl, ?_⟩) ?_ ?_
                    rotate_left
                    · intro w'
                      go_simp
                      with_reducible rfl
                    rotate_left
                    · simp only [Act.put, List.setIfInBounds_toArray, List.set_cons_zero, List.set_cons_succ, i64_w, i32_w]
                      rfl
                    refine pure_ (i := 4) (N := some 51) (v := ?_) (a' := ?_) #[true, false, false, false, true, false, false, false, false, false, false, false] rfl rfl (any_of HT_.out (by kernel_rfl)) (fun _ _ _ h => h) (Or.inl ⟨by rfl, ?_⟩) ?_ ?_
                    rotate_left
                    · intro w'
                      go_simp
                      with_reducible rfl
                    rotate_left
                    · simp only [Act.put, List.setIfInBounds_toArray, List.set_cons_zero, List.set_cons_succ, i64_w, i32_w]
                      rfl
                    refine take_ (i := 1) (N := some 48) (v := ?_) (a' := ?_) #[true, true, false, false, true, false, false, false, false, false, false, false] rfl rfl (take_ofW HT_.out HW_.out (by kernel_rfl)) (fun _ _ _ h => h) (Or.inl ⟨by rfl, ?_⟩) hHeld ?_ ?_
                    rotate_left
                    · intro w' _
                      go_simp
                      with_reducible rfl
                    rotate_left
                    · simp only [Act.put, List.setIfInBounds_toArray, List.set_cons_zero, List.set_cons_succ, i64_w, i32_w]
                      rfl
                    refine take_ (i := 5) (N := some 52) (v := ?_) (a' := ?_) #[true, true, false, false, true, true, false, false, false, false, false, false] rfl rfl (take_ofW HT_.out HW_.out (by kernel_rfl)) (fun _ _ _ h => h) (Or.inl ⟨by rfl, ?_⟩) hHeld ?_ ?_
                    rotate_left
                    · intro w' _
                      go_simp
                      with_reducible rfl
                    rotate_left
                    · simp only [Act.put, List.setIfInBounds_toArray, List.set_cons_zero, List.set_cons_succ, i64_w, i32_w]
                      rfl
                    refine one_ (i := 2) (N := some 49) #[true, true, true, false, true, true, false, false, false, false, false, false] rfl rfl (one_of HT_.out (by kernel_rfl)) (by decide) (fun K hK => ?_)
                    refine goes_ Tryd.func19 (by kernel_rfl) rfl #[.int .u8 (bt a0 0), .int .i64 16] (by rfl) rfl rfl (by (try simp only [List.map_toArray, List.map_cons, List.map_nil]); first | done | rfl | (simp only [List.length_drop, List.length_take]; rfl)) ?_
                    with_reducible refine (grommetref11_digit.calls kj14 (bt a0 0) 16 t197 _ A27.out).mono ?_
                    rintro e w' ⟨rfl, ⟨nd, rfl⟩⟩
                    refine ⟨_, rfl, ?_⟩
                    refine hK.out _ _ trivial (fun hHeld => ?_)
                    clear hK K
                    refine norm_ (a' := ?_) ?_ ?_
                    rotate_left
                    · show Act.put _ (some 49) _ = _
                      simp only [Act.put, List.setIfInBounds_toArray, List.set_cons_zero, List.set_cons_succ, i64_w, i32_w]
                      rfl
                    refine pure_ (i := 3) (N := some 50) (v := ?_) (a' := ?_) #[true, true, true, true, true, true, false, false, false, false, false, false] rfl rfl (any_of HT_.out (by kernel_rfl)) (fun _ _ _ h => h) (Or.inl ⟨by rfl, ?_⟩) ?_ ?_
                    rotate_left
                    · intro w'
                      go_simp
                      with_reducible rfl
                    rotate_left
                    · simp only [Act.put, List.setIfInBounds_toArray, List.set_cons_zero, List.set_cons_succ, i64_w, i32_w]
                      rfl
                    refine one_ (i := 6) (N := some 53) #[true, true, true, true, true, true, true, false, false, false, false, false] rfl rfl (one_of HT_.out (by kernel_rfl)) (by decide) (fun K hK => ?_)
                    refine goes_ Tryd.func19 (by kernel_rfl) rfl #[.int .u8 (bt a0 1), .int .i64 16] (by rfl) rfl rfl (by (try simp only [List.map_toArray, List.map_cons, List.map_nil]); first | done | rfl | (simp only [List.length_drop, List.length_take]; rfl)) ?_
                    with_reducible refine (grommetref11_digit.calls kj14 (bt a0 1) 16 t198 _ A30.out).mono ?_
                    rintro e w' ⟨rfl, ⟨nd, rfl⟩⟩
                    refine ⟨_, rfl, ?_⟩
                    refine hK.out _ _ trivial (fun hHeld => ?_)
                    clear hK K
                    refine norm_ (a' := ?_) ?_ ?_
                    rotate_left
                    · show Act.put _ (some 53) _ = _
                      simp only [Act.put, List.setIfInBounds_toArray, List.set_cons_zero, List.set_cons_succ, i64_w, i32_w]
                      rfl
                    refine pure_ (i := 7) (N := some 54) (v := ?_) (a' := ?_) #[true, true, true, true, true, true, true, true, false, false, false, false] rfl rfl (any_of HT_.out (by kernel_rfl)) (fun _ _ _ h => h) (Or.inl ⟨by rfl, ?_⟩) ?_ ?_
                    rotate_left
                    · intro w'
                      go_simp
                      with_reducible rfl
                    rotate_left
                    · simp only [Act.put, List.setIfInBounds_toArray, List.set_cons_zero, List.set_cons_succ, i64_w, i32_w]
                      rfl
                    refine pure_ (i := 8) (N := some 55) (v := ?_) (a' := ?_) #[true, true, true, true, true, true, true, true, true, false, false, false] rfl rfl (any_of HT_.out (by kernel_rfl)) (fun _ _ _ h => h) (Or.inl ⟨by rfl, ?_⟩) ?_ ?_
                    rotate_left
                    · intro w'
                      go_simp
                      with_reducible rfl
                    rotate_left
                    · simp only [Act.put, List.setIfInBounds_toArray, List.set_cons_zero, List.set_cons_succ, i64_w, i32_w]
                      rfl
                    refine one_ (i := 9) (N := some 56) #[true, true, true, true, true, true, true, true, true, true, false, false] rfl rfl (one_of HT_.out (by kernel_rfl)) (by decide) (fun K hK => ?_)
                    refine Kd.R_lit_step (Kd.int .u8) _ 5 ?hg (N := 56) ?hd (xs := ([(wrap64 ((wrap64 (t197 * 16)) + t198)) % 256] : List Int)) (inner := [.int .u8 ((wrap64 ((wrap64 (t197 * 16)) + t198)) % 256)]) (ok := fun _ => True) (okp := fun _ => True) ?hr ?hp (fun _ hk => hk) trivial (Below.refl _ _) (Nat.le_refl _) (by simp) ?_; (case hd => rfl); (case hg => rfl); (case hr => first | (go_simp; done) | (go_simp; rfl)); (case hp => exact (Reps.one (show Kd.M (Kd.int .u8) _ _ _ ((wrap64 ((wrap64 (t197 * 16)) + t198)) % 256) [.int .u8 ((wrap64 ((wrap64 (t197 * 16)) + t198)) % 256)] from rfl) (Reps.none _ _)))
                    intro v200 w32 ho33 hb hg_ hnew_
                    clear hg_ hnew_
                    (first | rw [← Ny199.out] at ho33 | (simp only [Int.reduceToNat] at ho33; rw [← Ny199.out] at ho33))
                    have n0_ := Aside0.mk (Kd.R_lower ho33 (below_size (by repeat (first | (with_reducible first | exact HB.out | apply below_alloc | apply pw_below_drewN | apply below_drew1) | exact HB.out))))
                    have n1_ := Aside0.mk (below_step (by repeat (first | (with_reducible first | exact HB.out | apply below_alloc | apply pw_below_drewN | apply below_drew1) | exact HB.out)) hb)
                    clear HB
                    have HO201 := n0_
                    have HB := n1_
                    clear n0_ n1_
                    clear hb ho33
                    refine hK.out _ _ trivial (fun hHeld => ?_)
                    clear hK K
                    refine norm_ (a' := ?_) ?_ ?_
                    rotate_left
                    · show Act.put _ (some 56) _ = _
                      simp only [Act.put, List.setIfInBounds_toArray, List.set_cons_zero, List.set_cons_succ, i64_w, i32_w]
                      rfl
                    refine pure_ (i := 10) (N := some 2) (v := ?_) (a' := ?_) #[true, true, true, true, true, true, true, true, true, true, true, false] rfl rfl (any_of HT_.out (by kernel_rfl)) (fun _ _ _ h => h) (Or.inl ⟨by rfl, ?_⟩) ?_ ?_
                    rotate_left
                    · intro w'
                      go_simp
                      with_reducible rfl
                    rotate_left
                    · simp only [Act.put, List.setIfInBounds_toArray, List.set_cons_zero, List.set_cons_succ, i64_w, i32_w]
                      rfl
                    refine pure_ (i := 11) (N := some 3) (v := ?_) (a' := ?_) #[true, true, true, true, true, true, true, true, true, true, true, true] rfl rfl (any_of HT_.out (by kernel_rfl)) (fun _ _ _ h => h) (Or.inl ⟨by rfl, ?_⟩) ?_ ?_
                    rotate_left
                    · intro w'
                      go_simp
                      with_reducible rfl
                    rotate_left
                    · simp only [Act.put, List.setIfInBounds_toArray, List.set_cons_zero, List.set_cons_succ, i64_w, i32_w]
                      rfl
                    refine done_ (done_of HT_.out (by kernel_rfl)) ?_
                    try go_wp2
                    go_ret2
                    exact ⟨_, by first | rfl | (simp [errW_none, errW_some] <;> rfl) | (simp [*, errW_none, errW_some] <;> rfl), by (with_reducible repeat (first | apply Kd.R_alloc | apply Kd.R_drewN | apply Kd.R_drew)); exact HO201.out, by repeat (first | (with_reducible first | exact HB.out | apply below_alloc | apply pw_below_drewN | apply below_drew1) | exact HB.out)⟩
                  · rw [if_neg c28] at H
                    exact absurd H (by simp)
                · rw [if_neg c25] at H
                  exact absurd H (by simp)
              · replace c24 := Bool.eq_false_iff.mpr c24
                subst c24
                have H1 : ((grommetref11_starts.f a0 (⟨#[117, 123]⟩ : ByteArray)).bind fun t202 => (if t202 = true then (grommetref11_escape.l1 kj14 a0 2) else (some (([] : List Int), 0)))) = some (r1, r2) := by rw [if_neg (show ¬ (false = true) by decide)] at H; exact H
                clear H
                have H := H1
                clear H1
                replace H := Option.bind_eq_some_iff.mp H
                obtain ⟨t202, A340, H⟩ := H
                replace H : (if t202 = true then (grommetref11_escape.l1 kj14 a0 2) else (some (([] : List Int), 0))) = some (r1, r2) := H
                have A34 := Aside0.mk A340
                clear A340
                by_cases c35 : t202 = true
                · subst c35
                  have H1 : (grommetref11_escape.l1 kj14 a0 2) = some (r1, r2) := by rw [if_pos rfl] at H; exact H
                  clear H
                  have H := H1
                  clear H1
                  have HC36 := Aside0.mk H
                  clear H
                  go_upto_block 2 with (first | ((with_reducible refine gate_callee (f := 20) rfl ?_); refine goesL_ (some 58) rfl rfl Tryd.func20 (by kernel_rfl) rfl #[.string a0, .string (⟨#[117, 123]⟩ : ByteArray)] rfl (by (try simp only [List.map_toArray, List.map_cons, List.map_nil]); first | done | rfl | (simp only [List.length_drop, List.length_take]; rfl)) ?_; (with_reducible refine (grommetref11_starts.calls a0 (⟨#[117, 123]⟩ : ByteArray) true _ A34.out).mono ?_); rintro e w' ⟨rfl, ⟨nd, rfl⟩⟩; refine ⟨_, rfl, ?_⟩))
                  (try simp only [Act.put, List.setIfInBounds_toArray, List.set_cons_zero, List.set_cons_succ])
                  go_cut [8] (fun v8 wc => ∃ (kq : Nat) (x8_35 : Int), v8 = .int .i64 x8_35 ∧ Aside0 (grommetref11_escape.j3 kq a0 x8_35 = some (r1, r2)) ∧ Aside0 (kq ≤ kj14) ∧ Aside0 (Below w.heap.size w wc))
                  case first =>
                    have H := HC36.out
                    clear HC36
                    have H' := Aside0.mk H
                    clear H
                    go_wp2
                    go_loopg [8] kj14 (fun kq v8 w' => ∃ (x8_3 : Int), v8 = .int .i64 x8_3 ∧ Aside0 (grommetref11_escape.l1 kq a0 x8_3 = some (r1, r2)) ∧ Aside0 (kq ≤ kj14) ∧ Aside0 (Below w.heap.size w w'))
                    case atStart => exact ⟨(2), (by first | rfl | (simp; done) | (simp [*]; done)), H', ⟨Nat.le_refl _⟩, ⟨by repeat (first | (with_reducible first | exact HB.out | apply below_alloc | apply pw_below_drewN | apply below_drew1) | exact HB.out)⟩⟩
                    case round =>
                      clear H'
                      try clear c1
                      try clear p1
                      try clear q1
                      try clear hx1
                      try clear qi1
                      try clear c2
                      try clear c2b0
                      try clear c2b1
                      try clear p2
                      try clear q2
                      try clear hx2
                      try clear qi2
                      try clear c3
                      try clear c3b0
                      try clear c4
                      try clear c4b0
                      try clear c4b1
                      try clear p5
                      try clear q5
                      try clear hx5
                      try clear qi5
                      try clear c6
                      try clear c6b0
                      try clear p6
                      try clear p7
                      try clear q7
                      try clear hx7
                      try clear c8
                      try clear c8b0
                      try clear c8b1
                      try clear c9
                      try clear c9b0
                      try clear c10
                      try clear p10
                      try clear q10
                      try clear hx10
                      try clear c16
                      try clear c16b0
                      try clear c16b1
                      try clear c17
                      try clear c17b0
                      try clear c17b1
                      try clear p18
                      try clear q18
                      try clear hx18
                      try clear qi18
                      try clear c19
                      try clear c20
                      try clear c20b0
                      try clear c21
                      try clear c21b0
                      try clear c21b1
                      try clear p22
                      try clear q22
                      try clear hx22
                      try clear qi22
                      try clear c24
                      try clear c25
                      try clear c25b0
                      try clear c25b1
                      try clear p26
                      try clear q26
                      try clear hx26
                      try clear qi26
                      try clear c28
                      try clear c28b0
                      try clear c28b1
                      try clear p29
                      try clear q29
                      try clear hx29
                      try clear qi29
                      try clear c35
                      try clear p1
                      try clear p10
                      try clear p18
                      try clear p2
                      try clear p22
                      try clear p26
                      try clear p29
                      try clear p5
                      try clear p6
                      try clear p7
                      try clear q1
                      try clear q10
                      try clear q18
                      try clear q2
                      try clear q22
                      try clear q26
                      try clear q29
                      try clear q5
                      try clear q7
                      obtain ⟨x8_3, rfl, HA, HK3, HB⟩ := hrel
                      cases gk with
                      | zero => exact absurd HA.out (by simp [grommetref11_escape.l1])
                      | succ k3 =>
                        have H := HA.out
                        clear HA
                        simp only [grommetref11_escape.l1] at H
                        by_cases c37 : x8_3 < (a0.size : Int)
                        · rw [if_pos c37] at H
                          have c37b0 : decide (x8_3 < (a0.size : Int)) = true := decide_eq_true c37
                          clear c37
                          (first | rw [c37b0] | (simp only [i64_w, i32_w]; rw [c37b0]) | skip)
                          by_cases c38 : 0 ≤ x8_3
                          · rw [if_pos c38] at H
                            have c38b0 : decide (0 ≤ x8_3) = true := decide_eq_true c38
                            clear c38
                            by_cases c40 : (bt a0 x8_3) = 125
                            · rw [if_pos c40] at H
                              have c40b0 : ((bt a0 x8_3) == 125) = true := beq_iff_eq.mpr c40
                              have c40b1 : ((bt a0 x8_3) != 125) = false := bne_eq_false_iff_eq.mpr c40
                              clear c40
                              have H' := Aside0.mk H
                              clear H
                              have p39 : 0 ≤ (x8_3 : Int) := of_decide_eq_true (by first | (with_reducible assumption) | assumption)
                              have q39 : x8_3 < (a0.size : Int) := of_decide_eq_true (by first | (with_reducible assumption) | assumption)
                              have hx39 := bt_at a0 x8_3
                              replace p39 := eq_true p39
                              replace q39 := eq_true q39
                              go_wp2
                              go_meet
                              case rel => exact ⟨_, (x8_3), (by first | rfl | (simp; done) | (simp [*]; done)), H', ⟨by have := HK1.out; have := HJ14.out; have := HK3.out; first | omega | exact Nat.le_refl _⟩, ⟨by repeat (first | (with_reducible first | exact HB.out | apply below_alloc | apply pw_below_drewN | apply below_drew1) | exact HB.out)⟩⟩
                            · rw [if_neg c40] at H
                              have c40b0 : ((bt a0 x8_3) == 125) = false := beq_eq_false_iff_ne.mpr c40
                              have c40b1 : ((bt a0 x8_3) != 125) = true := bne_iff_ne.mpr c40
                              have H' := Aside0.mk H
                              clear H
                              have p39 : 0 ≤ (x8_3 : Int) := of_decide_eq_true (by first | (with_reducible assumption) | assumption)
                              have q39 : x8_3 < (a0.size : Int) := of_decide_eq_true (by first | (with_reducible assumption) | assumption)
                              have hx39 := bt_at a0 x8_3
                              replace p39 := eq_true p39
                              replace q39 := eq_true q39
                              go_wp2
                              go_roundg k3
                              case measure => have := HK1.out; have := HJ14.out; have := HK3.out; omega
                              case rel => exact ⟨(wrap64 (x8_3 + 1)), (by first | rfl | (simp; done) | (simp [*]; done)), H', ⟨by have := HK1.out; have := HJ14.out; have := HK3.out; omega⟩, ⟨by repeat (first | (with_reducible first | exact HB.out | apply below_alloc | apply pw_below_drewN | apply below_drew1) | exact HB.out)⟩⟩
                          · rw [if_neg c38] at H
                            exact absurd H (by simp)
                        · rw [if_neg c37] at H
                          have c37b0 : decide (x8_3 < (a0.size : Int)) = false := decide_eq_false c37
                          clear c37
                          (first | rw [c37b0] | (simp only [i64_w, i32_w]; rw [c37b0]) | skip)
                          have H' := Aside0.mk H
                          clear H
                          go_wp2
                          go_meet
                          case rel => exact ⟨_, (x8_3), (by first | rfl | (simp; done) | (simp [*]; done)), H', ⟨by have := HK1.out; have := HJ14.out; have := HK3.out; first | omega | exact Nat.le_refl _⟩, ⟨by repeat (first | (with_reducible first | exact HB.out | apply below_alloc | apply pw_below_drewN | apply below_drew1) | exact HB.out)⟩⟩
                  case rest =>
                    clear HC36
                    try clear c1
                    try clear p1
                    try clear q1
                    try clear hx1
                    try clear qi1
                    try clear c2
                    try clear c2b0
                    try clear c2b1
                    try clear p2
                    try clear q2
                    try clear hx2
                    try clear qi2
                    try clear c3
                    try clear c3b0
                    try clear p3
                    try clear q3
                    try clear hx3
                    try clear c4
                    try clear c4b0
                    try clear c4b1
                    try clear p5
                    try clear q5
                    try clear hx5
                    try clear qi5
                    try clear c6
                    try clear c6b0
                    try clear p6
                    try clear p7
                    try clear q7
                    try clear hx7
                    try clear c8
                    try clear c8b0
                    try clear c8b1
                    try clear c9
                    try clear c9b0
                    try clear c10
                    try clear p10
                    try clear q10
                    try clear hx10
                    try clear c16
                    try clear c16b0
                    try clear c16b1
                    try clear c17
                    try clear c17b0
                    try clear c17b1
                    try clear p18
                    try clear q18
                    try clear hx18
                    try clear qi18
                    try clear c19
                    try clear c20
                    try clear c20b0
                    try clear c21
                    try clear c21b0
                    try clear c21b1
                    try clear p22
                    try clear q22
                    try clear hx22
                    try clear qi22
                    try clear c24
                    try clear c25
                    try clear c25b0
                    try clear c25b1
                    try clear p26
                    try clear q26
                    try clear hx26
                    try clear qi26
                    try clear c28
                    try clear c28b0
                    try clear c28b1
                    try clear p29
                    try clear q29
                    try clear hx29
                    try clear qi29
                    try clear c35
                    try clear c37
                    try clear c37b0
                    try clear c38
                    try clear c38b0
                    try clear p39
                    try clear q39
                    try clear hx39
                    try clear c40
                    try clear c40b0
                    try clear c40b1
                    try clear p1
                    try clear p10
                    try clear p18
                    try clear p2
                    try clear p22
                    try clear p26
                    try clear p29
                    try clear p39
                    try clear p5
                    try clear p6
                    try clear p7
                    try clear q1
                    try clear q10
                    try clear q18
                    try clear q2
                    try clear q22
                    try clear q26
                    try clear q29
                    try clear q39
                    try clear q5
                    try clear q7
                    obtain ⟨kq, x8_35, rfl, HA, HJ35, HB⟩ := hcut
                    cases kq with
                    | zero => exact absurd HA.out (by simp [grommetref11_escape.j3])
                    | succ kj35 =>
                      have H := HA.out
                      clear HA
                      simp only [grommetref11_escape.j3] at H
                      by_cases c41 : x8_35 ≥ (a0.size : Int)
                      · rw [if_pos c41] at H
                        have c41b0 : decide ((a0.size : Int) ≤ x8_35) = true := decide_eq_true c41
                        clear c41
                        simp only [Option.some.injEq, Prod.mk.injEq] at H
                        obtain ⟨rfl, rfl⟩ := H
                        go_wp2
                        go_ret2
                        exact ⟨_, by first | rfl | (simp [errW_none, errW_some] <;> rfl) | (simp [*, errW_none, errW_some] <;> rfl), by first | exact Kd.R_nil _ _ _ _ _ | exact Kd.N_nil _ _ _ _ _ | exact Kd.V_nil _ _ _ _ _ | exact Kd.Q_nil _ _ _ _ _ | exact Kd.S_nil _ _ _ _ _, by repeat (first | (with_reducible first | exact HB.out | apply below_alloc | apply pw_below_drewN | apply below_drew1) | exact HB.out)⟩
                      · rw [if_neg c41] at H
                        have c41b0 : decide ((a0.size : Int) ≤ x8_35) = false := decide_eq_false c41
                        clear c41
                        by_cases c42 : 2 ≤ x8_35
                        · rw [if_pos c42] at H
                          have c42b0 := eq_true c42
                          have c42b1 : decide (2 ≤ x8_35) = true := decide_eq_true c42
                          clear c42
                          by_cases c43 : x8_35 ≤ (a0.size : Int)
                          · rw [if_pos c43] at H
                            have c43b0 := eq_true c43
                            have c43b1 : decide (x8_35 ≤ (a0.size : Int)) = true := decide_eq_true c43
                            clear c43
                            replace H := Option.bind_eq_some_iff.mp H
                            obtain ⟨⟨t203, t204⟩, A440, H⟩ := H
                            replace H : ((grommetref11_value.f kj35 t203 16).bind fun bt207 => (if t204 = true then (if bt207.2 = true then (if bt207.1 > 1114111 then (some (([] : List Int), 0)) else ((grommetref02_Char.f (wrap64 (bt207.1))).bind fun t209 => (if t209 = true then ((grommetref02_Put.f (wrap64 (bt207.1))).bind fun t210 => (some (t210, wrap64 (x8_35 + 1)))) else (some (([] : List Int), 0))))) else (some (([] : List Int), 0))) else (some (([] : List Int), 0)))) = some (r1, r2) := H
                            have A44 := Aside0.mk A440
                            clear A440
                            replace H := Option.bind_eq_some_iff.mp H
                            obtain ⟨⟨t207, t208⟩, A450, H⟩ := H
                            replace H : (if t204 = true then (if t208 = true then (if t207 > 1114111 then (some (([] : List Int), 0)) else ((grommetref02_Char.f (wrap64 (t207))).bind fun t209 => (if t209 = true then ((grommetref02_Put.f (wrap64 (t207))).bind fun t210 => (some (t210, wrap64 (x8_35 + 1)))) else (some (([] : List Int), 0))))) else (some (([] : List Int), 0))) else (some (([] : List Int), 0))) = some (r1, r2) := H
                            have A45 := Aside0.mk A450
                            clear A450
                            by_cases c46 : t204 = true
                            · subst c46
                              have H1 : (if t208 = true then (if t207 > 1114111 then (some (([] : List Int), 0)) else ((grommetref02_Char.f (wrap64 (t207))).bind fun t209 => (if t209 = true then ((grommetref02_Put.f (wrap64 (t207))).bind fun t210 => (some (t210, wrap64 (x8_35 + 1)))) else (some (([] : List Int), 0))))) else (some (([] : List Int), 0))) = some (r1, r2) := by rw [if_pos rfl] at H; exact H
                              clear H
                              have H := H1
                              clear H1
                              by_cases c47 : t208 = true
                              · subst c47
                                have H1 : (if t207 > 1114111 then (some (([] : List Int), 0)) else ((grommetref02_Char.f (wrap64 (t207))).bind fun t209 => (if t209 = true then ((grommetref02_Put.f (wrap64 (t207))).bind fun t210 => (some (t210, wrap64 (x8_35 + 1)))) else (some (([] : List Int), 0))))) = some (r1, r2) := by rw [if_pos rfl] at H; exact H
                                clear H
                                have H := H1
                                clear H1
                                by_cases c48 : t207 > 1114111
                                · rw [if_pos c48] at H
                                  have c48b0 : decide (1114111 < t207) = true := decide_eq_true c48
                                  clear c48
                                  simp only [Option.some.injEq, Prod.mk.injEq] at H
                                  obtain ⟨rfl, rfl⟩ := H
                                  go_wp2_with (first | ((with_reducible refine gate_callee (f := 21) rfl ?_); refine goesL_ (some 81) rfl rfl Tryd.func21 (by kernel_rfl) rfl #[.string (a0.extract 2 (x8_35 : Int).toNat), .int .i64 16] rfl (by (try simp only [List.map_toArray, List.map_cons, List.map_nil]); first | done | rfl | (simp only [List.length_drop, List.length_take]; rfl)) ?_; (with_reducible refine (grommetref11_Digits.calls kj35 (a0.extract 2 (x8_35 : Int).toNat) 16 t203 true _ A44.out).mono ?_); rintro e w49 ⟨v205, rfl, ho0, hb⟩; refine ⟨_, rfl, ?_⟩; have n0_ := Aside0.mk (Kd.R_lower ho0 (below_size (by repeat (first | (with_reducible first | exact HB.out | apply below_alloc | apply pw_below_drewN | apply below_drew1) | exact HB.out)))); have n1_ := Aside0.mk (below_step (by repeat (first | (with_reducible first | exact HB.out | apply below_alloc | apply pw_below_drewN | apply below_drew1) | exact HB.out)) hb); clear HB; have HO206 := n0_; have HB := n1_; clear n0_ n1_; (try clear hb); (try clear hb2); (try clear hk); (try clear hi); (try clear ho0); obtain ⟨Ao50, co50, eo50⟩ := Kd.R_slice HO206.out; subst eo50) | ((with_reducible refine gate_callee (f := 22) rfl ?_); refine goesL_ (some 86) rfl rfl Tryd.func22 (by kernel_rfl) rfl #[.slice Ao50 t203.length co50, .int .i64 16] rfl (by (try simp only [List.map_toArray, List.map_cons, List.map_nil]); first | done | rfl | (simp only [List.length_drop, List.length_take]; rfl)) ?_; (with_reducible refine (grommetref11_value.calls kj35 _ _ t203 16 t207 true _ ?side1 ?side2 A45.out).mono ?_); (case side1 => repeat (first | exact (Kd.R_reads' HO206.out).2.2 | (with_reducible refine Kd.C_alloc ?_ _) | (with_reducible refine Kd.C_drewN ?_ _) | (with_reducible refine Kd.C_drew ?_))); (case side2 => exact (Kd.R_reads' HO206.out).2.1); rintro e w' ⟨rfl, ⟨nd, rfl⟩⟩; refine ⟨_, rfl, ?_⟩))
                                  go_ret2
                                  exact ⟨_, by first | rfl | (simp [errW_none, errW_some] <;> rfl) | (simp [*, errW_none, errW_some] <;> rfl), by first | exact Kd.R_nil _ _ _ _ _ | exact Kd.N_nil _ _ _ _ _ | exact Kd.V_nil _ _ _ _ _ | exact Kd.Q_nil _ _ _ _ _ | exact Kd.S_nil _ _ _ _ _, by repeat (first | (with_reducible first | exact HB.out | apply below_alloc | apply pw_below_drewN | apply below_drew1) | exact HB.out)⟩
                                · rw [if_neg c48] at H
                                  have c48b0 : decide (1114111 < t207) = false := decide_eq_false c48
                                  clear c48
                                  replace H := Option.bind_eq_some_iff.mp H
                                  obtain ⟨t209, A510, H⟩ := H
                                  replace H : (if t209 = true then ((grommetref02_Put.f (wrap64 (t207))).bind fun t210 => (some (t210, wrap64 (x8_35 + 1)))) else (some (([] : List Int), 0))) = some (r1, r2) := H
                                  have A51 := Aside0.mk A510
                                  clear A510
                                  by_cases c52 : t209 = true
                                  · subst c52
                                    have H1 : ((grommetref02_Put.f (wrap64 (t207))).bind fun t210 => (some (t210, wrap64 (x8_35 + 1)))) = some (r1, r2) := by rw [if_pos rfl] at H; exact H
                                    clear H
                                    have H := H1
                                    clear H1
                                    replace H := Option.bind_eq_some_iff.mp H
                                    obtain ⟨t210, A530, H⟩ := H
                                    replace H : (some (t210, wrap64 (x8_35 + 1))) = some (r1, r2) := H
                                    have A53 := Aside0.mk A530
                                    clear A530
                                    simp only [Option.some.injEq, Prod.mk.injEq] at H
                                    obtain ⟨rfl, rfl⟩ := H
                                    go_wp2_with (first | ((with_reducible refine gate_callee (f := 21) rfl ?_); refine goesL_ (some 81) rfl rfl Tryd.func21 (by kernel_rfl) rfl #[.string (a0.extract 2 (x8_35 : Int).toNat), .int .i64 16] rfl (by (try simp only [List.map_toArray, List.map_cons, List.map_nil]); first | done | rfl | (simp only [List.length_drop, List.length_take]; rfl)) ?_; (with_reducible refine (grommetref11_Digits.calls kj35 (a0.extract 2 (x8_35 : Int).toNat) 16 t203 true _ A44.out).mono ?_); rintro e w54 ⟨v205, rfl, ho0, hb⟩; refine ⟨_, rfl, ?_⟩; have n0_ := Aside0.mk (Kd.R_lower ho0 (below_size (by repeat (first | (with_reducible first | exact HB.out | apply below_alloc | apply pw_below_drewN | apply below_drew1) | exact HB.out)))); have n1_ := Aside0.mk (below_step (by repeat (first | (with_reducible first | exact HB.out | apply below_alloc | apply pw_below_drewN | apply below_drew1) | exact HB.out)) hb); clear HB; have HO206 := n0_; have HB := n1_; clear n0_ n1_; (try clear hb); (try clear hb2); (try clear hk); (try clear hi); (try clear ho0); obtain ⟨Ao55, co55, eo55⟩ := Kd.R_slice HO206.out; subst eo55) | ((with_reducible refine gate_callee (f := 22) rfl ?_); refine goesL_ (some 86) rfl rfl Tryd.func22 (by kernel_rfl) rfl #[.slice Ao55 t203.length co55, .int .i64 16] rfl (by (try simp only [List.map_toArray, List.map_cons, List.map_nil]); first | done | rfl | (simp only [List.length_drop, List.length_take]; rfl)) ?_; (with_reducible refine (grommetref11_value.calls kj35 _ _ t203 16 t207 true _ ?side1 ?side2 A45.out).mono ?_); (case side1 => repeat (first | exact (Kd.R_reads' HO206.out).2.2 | (with_reducible refine Kd.C_alloc ?_ _) | (with_reducible refine Kd.C_drewN ?_ _) | (with_reducible refine Kd.C_drew ?_))); (case side2 => exact (Kd.R_reads' HO206.out).2.1); rintro e w' ⟨rfl, ⟨nd, rfl⟩⟩; refine ⟨_, rfl, ?_⟩) | (go_at_call 23; (with_reducible refine (grommetref02_Char.calls (wrap64 (t207)) true _ A51.out).mono ?_); rintro e w' ⟨rfl, ⟨nd, rfl⟩⟩) | ((with_reducible refine gate_callee (f := 24) rfl ?_); refine goesL_ (some 107) rfl rfl Tryd.func24 (by kernel_rfl) rfl #[.int .i64 (wrap64 (t207))] rfl (by (try simp only [List.map_toArray, List.map_cons, List.map_nil]); first | done | rfl | (simp only [List.length_drop, List.length_take]; rfl)) ?_; (with_reducible refine (grommetref02_Put.calls (wrap64 (t207)) t210 _ A53.out).mono ?_); rintro e w56 ⟨v211, rfl, ho0, hb⟩; refine ⟨_, rfl, ?_⟩; have n0_ := Aside0.mk (Kd.R_below (by (with_reducible repeat (first | apply Kd.R_alloc | apply Kd.R_drewN | apply Kd.R_drew)); exact HO206.out) hb); have n1_ := Aside0.mk (Kd.R_lower ho0 (below_size (by repeat (first | (with_reducible first | exact HB.out | apply below_alloc | apply pw_below_drewN | apply below_drew1) | exact HB.out)))); have n2_ := Aside0.mk (below_step (by repeat (first | (with_reducible first | exact HB.out | apply below_alloc | apply pw_below_drewN | apply below_drew1) | exact HB.out)) hb); clear HO206; clear HB; have HO206 := n0_; have HO212 := n1_; have HB := n2_; clear n0_ n1_ n2_; (try clear hb); (try clear hb2); (try clear hk); (try clear hi); (try clear ho0)))
                                    go_ret2
                                    exact ⟨_, by first | rfl | (simp [errW_none, errW_some] <;> rfl) | (simp [*, errW_none, errW_some] <;> rfl), by (with_reducible repeat (first | apply Kd.R_alloc | apply Kd.R_drewN | apply Kd.R_drew)); exact HO212.out, by repeat (first | (with_reducible first | exact HB.out | apply below_alloc | apply pw_below_drewN | apply below_drew1) | exact HB.out)⟩
                                  · replace c52 := Bool.eq_false_iff.mpr c52
                                    subst c52
                                    have H1 : (some (([] : List Int), 0)) = some (r1, r2) := by rw [if_neg (show ¬ (false = true) by decide)] at H; exact H
                                    clear H
                                    have H := H1
                                    clear H1
                                    simp only [Option.some.injEq, Prod.mk.injEq] at H
                                    obtain ⟨rfl, rfl⟩ := H
                                    go_wp2_with (first | ((with_reducible refine gate_callee (f := 21) rfl ?_); refine goesL_ (some 81) rfl rfl Tryd.func21 (by kernel_rfl) rfl #[.string (a0.extract 2 (x8_35 : Int).toNat), .int .i64 16] rfl (by (try simp only [List.map_toArray, List.map_cons, List.map_nil]); first | done | rfl | (simp only [List.length_drop, List.length_take]; rfl)) ?_; (with_reducible refine (grommetref11_Digits.calls kj35 (a0.extract 2 (x8_35 : Int).toNat) 16 t203 true _ A44.out).mono ?_); rintro e w57 ⟨v205, rfl, ho0, hb⟩; refine ⟨_, rfl, ?_⟩; have n0_ := Aside0.mk (Kd.R_lower ho0 (below_size (by repeat (first | (with_reducible first | exact HB.out | apply below_alloc | apply pw_below_drewN | apply below_drew1) | exact HB.out)))); have n1_ := Aside0.mk (below_step (by repeat (first | (with_reducible first | exact HB.out | apply below_alloc | apply pw_below_drewN | apply below_drew1) | exact HB.out)) hb); clear HB; have HO206 := n0_; have HB := n1_; clear n0_ n1_; (try clear hb); (try clear hb2); (try clear hk); (try clear hi); (try clear ho0); obtain ⟨Ao58, co58, eo58⟩ := Kd.R_slice HO206.out; subst eo58) | ((with_reducible refine gate_callee (f := 22) rfl ?_); refine goesL_ (some 86) rfl rfl Tryd.func22 (by kernel_rfl) rfl #[.slice Ao58 t203.length co58, .int .i64 16] rfl (by (try simp only [List.map_toArray, List.map_cons, List.map_nil]); first | done | rfl | (simp only [List.length_drop, List.length_take]; rfl)) ?_; (with_reducible refine (grommetref11_value.calls kj35 _ _ t203 16 t207 true _ ?side1 ?side2 A45.out).mono ?_); (case side1 => repeat (first | exact (Kd.R_reads' HO206.out).2.2 | (with_reducible refine Kd.C_alloc ?_ _) | (with_reducible refine Kd.C_drewN ?_ _) | (with_reducible refine Kd.C_drew ?_))); (case side2 => exact (Kd.R_reads' HO206.out).2.1); rintro e w' ⟨rfl, ⟨nd, rfl⟩⟩; refine ⟨_, rfl, ?_⟩) | (go_at_call 23; (with_reducible refine (grommetref02_Char.calls (wrap64 (t207)) false _ A51.out).mono ?_); rintro e w' ⟨rfl, ⟨nd, rfl⟩⟩))
                                    go_ret2
                                    exact ⟨_, by first | rfl | (simp [errW_none, errW_some] <;> rfl) | (simp [*, errW_none, errW_some] <;> rfl), by first | exact Kd.R_nil _ _ _ _ _ | exact Kd.N_nil _ _ _ _ _ | exact Kd.V_nil _ _ _ _ _ | exact Kd.Q_nil _ _ _ _ _ | exact Kd.S_nil _ _ _ _ _, by repeat (first | (with_reducible first | exact HB.out | apply below_alloc | apply pw_below_drewN | apply below_drew1) | exact HB.out)⟩
                              · replace c47 := Bool.eq_false_iff.mpr c47
                                subst c47
                                have H1 : (some (([] : List Int), 0)) = some (r1, r2) := by rw [if_neg (show ¬ (false = true) by decide)] at H; exact H
                                clear H
                                have H := H1
                                clear H1
                                simp only [Option.some.injEq, Prod.mk.injEq] at H
                                obtain ⟨rfl, rfl⟩ := H
                                go_wp2_with (first | ((with_reducible refine gate_callee (f := 21) rfl ?_); refine goesL_ (some 81) rfl rfl Tryd.func21 (by kernel_rfl) rfl #[.string (a0.extract 2 (x8_35 : Int).toNat), .int .i64 16] rfl (by (try simp only [List.map_toArray, List.map_cons, List.map_nil]); first | done | rfl | (simp only [List.length_drop, List.length_take]; rfl)) ?_; (with_reducible refine (grommetref11_Digits.calls kj35 (a0.extract 2 (x8_35 : Int).toNat) 16 t203 true _ A44.out).mono ?_); rintro e w59 ⟨v205, rfl, ho0, hb⟩; refine ⟨_, rfl, ?_⟩; have n0_ := Aside0.mk (Kd.R_lower ho0 (below_size (by repeat (first | (with_reducible first | exact HB.out | apply below_alloc | apply pw_below_drewN | apply below_drew1) | exact HB.out)))); have n1_ := Aside0.mk (below_step (by repeat (first | (with_reducible first | exact HB.out | apply below_alloc | apply pw_below_drewN | apply below_drew1) | exact HB.out)) hb); clear HB; have HO206 := n0_; have HB := n1_; clear n0_ n1_; (try clear hb); (try clear hb2); (try clear hk); (try clear hi); (try clear ho0); obtain ⟨Ao60, co60, eo60⟩ := Kd.R_slice HO206.out; subst eo60) | ((with_reducible refine gate_callee (f := 22) rfl ?_); refine goesL_ (some 86) rfl rfl Tryd.func22 (by kernel_rfl) rfl #[.slice Ao60 t203.length co60, .int .i64 16] rfl (by (try simp only [List.map_toArray, List.map_cons, List.map_nil]); first | done | rfl | (simp only [List.length_drop, List.length_take]; rfl)) ?_; (with_reducible refine (grommetref11_value.calls kj35 _ _ t203 16 t207 false _ ?side1 ?side2 A45.out).mono ?_); (case side1 => repeat (first | exact (Kd.R_reads' HO206.out).2.2 | (with_reducible refine Kd.C_alloc ?_ _) | (with_reducible refine Kd.C_drewN ?_ _) | (with_reducible refine Kd.C_drew ?_))); (case side2 => exact (Kd.R_reads' HO206.out).2.1); rintro e w' ⟨rfl, ⟨nd, rfl⟩⟩; refine ⟨_, rfl, ?_⟩))
                                go_ret2
                                exact ⟨_, by first | rfl | (simp [errW_none, errW_some] <;> rfl) | (simp [*, errW_none, errW_some] <;> rfl), by first | exact Kd.R_nil _ _ _ _ _ | exact Kd.N_nil _ _ _ _ _ | exact Kd.V_nil _ _ _ _ _ | exact Kd.Q_nil _ _ _ _ _ | exact Kd.S_nil _ _ _ _ _, by repeat (first | (with_reducible first | exact HB.out | apply below_alloc | apply pw_below_drewN | apply below_drew1) | exact HB.out)⟩
                            · replace c46 := Bool.eq_false_iff.mpr c46
                              subst c46
                              have H1 : (some (([] : List Int), 0)) = some (r1, r2) := by rw [if_neg (show ¬ (false = true) by decide)] at H; exact H
                              clear H
                              have H := H1
                              clear H1
                              simp only [Option.some.injEq, Prod.mk.injEq] at H
                              obtain ⟨rfl, rfl⟩ := H
                              go_wp2_with (first | ((with_reducible refine gate_callee (f := 21) rfl ?_); refine goesL_ (some 81) rfl rfl Tryd.func21 (by kernel_rfl) rfl #[.string (a0.extract 2 (x8_35 : Int).toNat), .int .i64 16] rfl (by (try simp only [List.map_toArray, List.map_cons, List.map_nil]); first | done | rfl | (simp only [List.length_drop, List.length_take]; rfl)) ?_; (with_reducible refine (grommetref11_Digits.calls kj35 (a0.extract 2 (x8_35 : Int).toNat) 16 t203 false _ A44.out).mono ?_); rintro e w61 ⟨v205, rfl, ho0, hb⟩; refine ⟨_, rfl, ?_⟩; have n0_ := Aside0.mk (Kd.R_lower ho0 (below_size (by repeat (first | (with_reducible first | exact HB.out | apply below_alloc | apply pw_below_drewN | apply below_drew1) | exact HB.out)))); have n1_ := Aside0.mk (below_step (by repeat (first | (with_reducible first | exact HB.out | apply below_alloc | apply pw_below_drewN | apply below_drew1) | exact HB.out)) hb); clear HB; have HO206 := n0_; have HB := n1_; clear n0_ n1_; (try clear hb); (try clear hb2); (try clear hk); (try clear hi); (try clear ho0); obtain ⟨Ao62, co62, eo62⟩ := Kd.R_slice HO206.out; subst eo62) | ((with_reducible refine gate_callee (f := 22) rfl ?_); refine goesL_ (some 86) rfl rfl Tryd.func22 (by kernel_rfl) rfl #[.slice Ao62 t203.length co62, .int .i64 16] rfl (by (try simp only [List.map_toArray, List.map_cons, List.map_nil]); first | done | rfl | (simp only [List.length_drop, List.length_take]; rfl)) ?_; (with_reducible refine (grommetref11_value.calls kj35 _ _ t203 16 t207 t208 _ ?side1 ?side2 A45.out).mono ?_); (case side1 => repeat (first | exact (Kd.R_reads' HO206.out).2.2 | (with_reducible refine Kd.C_alloc ?_ _) | (with_reducible refine Kd.C_drewN ?_ _) | (with_reducible refine Kd.C_drew ?_))); (case side2 => exact (Kd.R_reads' HO206.out).2.1); rintro e w' ⟨rfl, ⟨nd, rfl⟩⟩; refine ⟨_, rfl, ?_⟩))
                              go_ret2
                              exact ⟨_, by first | rfl | (simp [errW_none, errW_some] <;> rfl) | (simp [*, errW_none, errW_some] <;> rfl), by first | exact Kd.R_nil _ _ _ _ _ | exact Kd.N_nil _ _ _ _ _ | exact Kd.V_nil _ _ _ _ _ | exact Kd.Q_nil _ _ _ _ _ | exact Kd.S_nil _ _ _ _ _, by repeat (first | (with_reducible first | exact HB.out | apply below_alloc | apply pw_below_drewN | apply below_drew1) | exact HB.out)⟩
                          · rw [if_neg c43] at H
                            exact absurd H (by simp)
                        · rw [if_neg c42] at H
                          exact absurd H (by simp)
                · replace c35 := Bool.eq_false_iff.mpr c35
                  subst c35
                  have H1 : (some (([] : List Int), 0)) = some (r1, r2) := by rw [if_neg (show ¬ (false = true) by decide)] at H; exact H
                  clear H
                  have H := H1
                  clear H1
                  simp only [Option.some.injEq, Prod.mk.injEq] at H
                  obtain ⟨rfl, rfl⟩ := H
                  go_wp2_with (first | ((with_reducible refine gate_callee (f := 20) rfl ?_); refine goesL_ (some 58) rfl rfl Tryd.func20 (by kernel_rfl) rfl #[.string a0, .string (⟨#[117, 123]⟩ : ByteArray)] rfl (by (try simp only [List.map_toArray, List.map_cons, List.map_nil]); first | done | rfl | (simp only [List.length_drop, List.length_take]; rfl)) ?_; (with_reducible refine (grommetref11_starts.calls a0 (⟨#[117, 123]⟩ : ByteArray) false _ A34.out).mono ?_); rintro e w' ⟨rfl, ⟨nd, rfl⟩⟩; refine ⟨_, rfl, ?_⟩))
                  go_ret2
                  exact ⟨_, by first | rfl | (simp [errW_none, errW_some] <;> rfl) | (simp [*, errW_none, errW_some] <;> rfl), by first | exact Kd.R_nil _ _ _ _ _ | exact Kd.N_nil _ _ _ _ _ | exact Kd.V_nil _ _ _ _ _ | exact Kd.Q_nil _ _ _ _ _ | exact Kd.S_nil _ _ _ _ _, by repeat (first | (with_reducible first | exact HB.out | apply below_alloc | apply pw_below_drewN | apply below_drew1) | exact HB.out)⟩

end Go.Proofs.YtjenbegobpfclaaDoor.RTextBytes
