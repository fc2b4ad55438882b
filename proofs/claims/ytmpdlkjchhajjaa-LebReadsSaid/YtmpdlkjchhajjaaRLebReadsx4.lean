-- Made by the program wip/patchprint.py (this session's own, over the kit's print)
import Derived.Test.YtmpdlkjchhajjaaRLebReadsx0
import Derived.Test.YtmpdlkjchhajjaaRLebReadsx1
import Derived.Test.YtmpdlkjchhajjaaRLebReadsx2
import Derived.Test.YtmpdlkjchhajjaaRLebReadsx3
namespace Go.Proofs.Ytmpdlkjchhajjaa.RLebReads
open Go.RowKit Go.Proofs.YtmpdlkjchhajjaaW.PrintWords Go.Proofs.YtmpdlkjchhajjaaW.PrintLast Go.Proofs.YtmpdlkjchhajjaaW.PrintMore
attribute [local go_sem] max2_int min2_int max_two min_two max_three min_three max_four min_four   -- for this text's walks alone
set_option linter.unusedVariables false
set_option linter.unusedSimpArgs false
set_option linter.unnecessarySimpa false

attribute [local go_sem] err_eql err_neq err_nil_eql err_nil_neq
/-! ### grommetlaw01_LebReads: function 3 -/
def grommetlaw01_LebReads.j0 : Nat → List Int → Int → Int → Bool → Int → Int → Option Int → Int → Int → Option Int → Bool → Option (Bool)
  | 0, _, _, _, _, _, _, _, _, _, _, _ => none
  | k + 1, x0, x1, x2, x7, x8, x9, x10, x11, x12, x13, x58 => if x58 = true then (if x7 = true then (if x10.isNone = true then (some false) else (if (x10.getD 0) = 1 then (if x13.isNone = true then (some false) else (if (x13.getD 0) = 1 then (if x8 = 0 then (if x11 = 0 then (if x9 = 0 then (some (x12 == 0)) else (some false)) else (some false)) else (some false)) else (some false))) else (some false))) else (some false)) else ((grommetref01_Read.f k x0 x1 x2 false).bind fun bt167 => ((grommetref01_Read.f k x0 x1 x2 true).bind fun bt170 => (if bt167.2.2 = true then (if x10.isNone = true then (if x8 = bt167.1 then (if x9 = bt167.2.1 then (if bt170.2.2 = true then (if x13.isNone = true then (if (IntKind.u64.wrap (x11)) = bt170.1 then (if x12 = bt170.2.1 then (if x7 = true then (some true) else (some false)) else (if x7 = true then (some false) else (some false))) else (if x7 = true then (some false) else (some false))) else (if x7 = true then (some false) else (some false))) else (if x13.isNone = true then (if x7 = true then (some false) else (some false)) else (if (x13.getD 0) = 2 then (if x11 = 0 then (if x7 = true then (some (x12 == 0)) else (some false)) else (if x7 = true then (some false) else (some false))) else (if x7 = true then (some false) else (some false))))) else (if bt170.2.2 = true then (if x13.isNone = true then (if (IntKind.u64.wrap (x11)) = bt170.1 then (if x12 = bt170.2.1 then (if x7 = true then (some false) else (some false)) else (if x7 = true then (some false) else (some false))) else (if x7 = true then (some false) else (some false))) else (if x7 = true then (some false) else (some false))) else (if x13.isNone = true then (if x7 = true then (some false) else (some false)) else (if (x13.getD 0) = 2 then (if x11 = 0 then (if x7 = true then (some false) else (some false)) else (if x7 = true then (some false) else (some false))) else (if x7 = true then (some false) else (some false)))))) else (if bt170.2.2 = true then (if x13.isNone = true then (if (IntKind.u64.wrap (x11)) = bt170.1 then (if x12 = bt170.2.1 then (if x7 = true then (some false) else (some false)) else (if x7 = true then (some false) else (some false))) else (if x7 = true then (some false) else (some false))) else (if x7 = true then (some false) else (some false))) else (if x13.isNone = true then (if x7 = true then (some false) else (some false)) else (if (x13.getD 0) = 2 then (if x11 = 0 then (if x7 = true then (some false) else (some false)) else (if x7 = true then (some false) else (some false))) else (if x7 = true then (some false) else (some false)))))) else (if bt170.2.2 = true then (if x13.isNone = true then (if (IntKind.u64.wrap (x11)) = bt170.1 then (if x12 = bt170.2.1 then (if x7 = true then (some false) else (some false)) else (if x7 = true then (some false) else (some false))) else (if x7 = true then (some false) else (some false))) else (if x7 = true then (some false) else (some false))) else (if x13.isNone = true then (if x7 = true then (some false) else (some false)) else (if (x13.getD 0) = 2 then (if x11 = 0 then (if x7 = true then (some false) else (some false)) else (if x7 = true then (some false) else (some false))) else (if x7 = true then (some false) else (some false)))))) else (if x10.isNone = true then (if bt170.2.2 = true then (if x13.isNone = true then (if (IntKind.u64.wrap (x11)) = bt170.1 then (if x12 = bt170.2.1 then (if x7 = true then (some false) else (some false)) else (if x7 = true then (some false) else (some false))) else (if x7 = true then (some false) else (some false))) else (if x7 = true then (some false) else (some false))) else (if x13.isNone = true then (if x7 = true then (some false) else (some false)) else (if (x13.getD 0) = 2 then (if x11 = 0 then (if x7 = true then (some false) else (some false)) else (if x7 = true then (some false) else (some false))) else (if x7 = true then (some false) else (some false))))) else (if (x10.getD 0) = 2 then (if x8 = 0 then (if bt170.2.2 = true then (if x13.isNone = true then (if (IntKind.u64.wrap (x11)) = bt170.1 then (if x12 = bt170.2.1 then (if x7 = true then (if x9 = 0 then (some true) else (some false)) else (some false)) else (if x7 = true then (if x9 = 0 then (some false) else (some false)) else (some false))) else (if x7 = true then (if x9 = 0 then (some false) else (some false)) else (some false))) else (if x7 = true then (if x9 = 0 then (some false) else (some false)) else (some false))) else (if x13.isNone = true then (if x7 = true then (if x9 = 0 then (some false) else (some false)) else (some false)) else (if (x13.getD 0) = 2 then (if x11 = 0 then (if x7 = true then (if x9 = 0 then (some (x12 == 0)) else (some false)) else (some false)) else (if x7 = true then (if x9 = 0 then (some false) else (some false)) else (some false))) else (if x7 = true then (if x9 = 0 then (some false) else (some false)) else (some false))))) else (if bt170.2.2 = true then (if x13.isNone = true then (if (IntKind.u64.wrap (x11)) = bt170.1 then (if x12 = bt170.2.1 then (if x7 = true then (some false) else (some false)) else (if x7 = true then (some false) else (some false))) else (if x7 = true then (some false) else (some false))) else (if x7 = true then (some false) else (some false))) else (if x13.isNone = true then (if x7 = true then (some false) else (some false)) else (if (x13.getD 0) = 2 then (if x11 = 0 then (if x7 = true then (some false) else (some false)) else (if x7 = true then (some false) else (some false))) else (if x7 = true then (some false) else (some false)))))) else (if bt170.2.2 = true then (if x13.isNone = true then (if (IntKind.u64.wrap (x11)) = bt170.1 then (if x12 = bt170.2.1 then (if x7 = true then (some false) else (some false)) else (if x7 = true then (some false) else (some false))) else (if x7 = true then (some false) else (some false))) else (if x7 = true then (some false) else (some false))) else (if x13.isNone = true then (if x7 = true then (some false) else (some false)) else (if (x13.getD 0) = 2 then (if x11 = 0 then (if x7 = true then (some false) else (some false)) else (if x7 = true then (some false) else (some false))) else (if x7 = true then (some false) else (some false))))))))))
def grommetlaw01_LebReads.f (k : Nat) (l0 : List Int) (a1 : Int) (a2 : Int) : Option (Bool) := (grommetlaw01_up.f k).bind fun t158 => (if (l0.length : Int) > 1000 then (some t158) else ((leb_U.f k l0 a1 a2).bind fun bt159 => ((leb_S.f k l0 a1 a2).bind fun bt162 => (if a2 < 1 then (grommetlaw01_LebReads.j0 k l0 a1 a2 t158 bt159.1 bt159.2.1 bt159.2.2 bt162.1 bt162.2.1 bt162.2.2 true) else (if a2 > 64 then (grommetlaw01_LebReads.j0 k l0 a1 a2 t158 bt159.1 bt159.2.1 bt159.2.2 bt162.1 bt162.2.1 bt162.2.2 true) else (if a1 < 0 then (grommetlaw01_LebReads.j0 k l0 a1 a2 t158 bt159.1 bt159.2.1 bt159.2.2 bt162.1 bt162.2.1 bt162.2.2 true) else (grommetlaw01_LebReads.j0 k l0 a1 a2 t158 bt159.1 bt159.2.1 bt159.2.2 bt162.1 bt162.2.1 bt162.2.2 (decide (a1 > (l0.length : Int))))))))))
theorem grommetlaw01_LebReads.mono_l : ∀ k, (∀ y0 y1 y2 y3 y4 y5 y6 y7 y8 y9 y10, LeO (grommetlaw01_LebReads.j0 k y0 y1 y2 y3 y4 y5 y6 y7 y8 y9 y10) (grommetlaw01_LebReads.j0 (k + 1) y0 y1 y2 y3 y4 y5 y6 y7 y8 y9 y10))
  | 0 => fun _ _ _ _ _ _ _ _ _ _ _ r h => by simp [grommetlaw01_LebReads.j0] at h
  | k + 1 => by
    have ih0 := grommetlaw01_LebReads.mono_l k
    · intro y0 y1 y2 y3 y4 y5 y6 y7 y8 y9 y10
      unfold grommetlaw01_LebReads.j0
      repeat' first
      | (with_reducible exact ih0 _ _ _ _ _ _ _ _ _ _ _)
      | (with_reducible exact grommetlaw01_up.mono _)
      | (with_reducible exact grommetref01_Read.mono _ _ _ _ _)
      | (with_reducible exact leb_S.mono _ _ _ _)
      | (with_reducible exact leb_U.mono _ _ _ _)
      | (with_reducible exact LeO.refl _)
      | (with_reducible exact LeO.none _)
      | (with_reducible refine LeO.ite ?_ ?_)
      | (with_reducible refine LeO.bind ?_ (fun _ => ?_))
      | exact ih0 _ _ _ _ _ _ _ _ _ _ _
      | exact grommetlaw01_up.mono _
      | exact grommetref01_Read.mono _ _ _ _ _
      | exact leb_S.mono _ _ _ _
      | exact leb_U.mono _ _ _ _
      | exact LeO.none _
      | refine LeO.ite ?_ ?_
      | refine LeO.bind ?_ (fun _ => ?_)
theorem grommetlaw01_LebReads.mono : ∀ a0 a1 a2 k, LeO (grommetlaw01_LebReads.f k a0 a1 a2) (grommetlaw01_LebReads.f (k + 1) a0 a1 a2) := by
  intro a0 a1 a2 k
  have ih0 := grommetlaw01_LebReads.mono_l k
  unfold grommetlaw01_LebReads.f
  repeat' first
      | (with_reducible exact ih0 _ _ _ _ _ _ _ _ _ _ _)
      | (with_reducible exact grommetlaw01_up.mono _)
      | (with_reducible exact grommetref01_Read.mono _ _ _ _ _)
      | (with_reducible exact leb_S.mono _ _ _ _)
      | (with_reducible exact leb_U.mono _ _ _ _)
      | (with_reducible exact LeO.refl _)
      | (with_reducible exact LeO.none _)
      | (with_reducible refine LeO.ite ?_ ?_)
      | (with_reducible refine LeO.bind ?_ (fun _ => ?_))
      | exact ih0 _ _ _ _ _ _ _ _ _ _ _
      | exact grommetlaw01_up.mono _
      | exact grommetref01_Read.mono _ _ _ _ _
      | exact leb_S.mono _ _ _ _
      | exact leb_U.mono _ _ _ _
      | exact LeO.none _
      | refine LeO.ite ?_ ?_
      | refine LeO.bind ?_ (fun _ => ?_)
set_option maxHeartbeats 8000000 in
set_option maxRecDepth 100000 in
theorem grommetlaw01_LebReads.calls (k : Nat) (A0 : Option Addr) (c0 : Nat) (l0 : List Int) (a1 : Int) (a2 : Int) (r : Bool) (w : World) (hr0 : Kd.C (Kd.int .u8) w A0 l0.length l0) (hc0 : l0.length ≤ c0) (h : grommetlaw01_LebReads.f k l0 a1 a2 = some r) (hrt : r = true) :
    Calls Try.prog 3 #[.slice A0 l0.length c0, .int .i64 a1, .int .i64 a2] w fun e w' => e = .returned (.bool r) ∧ Below w.heap.size w w' := by
  have HRT := Aside0.mk hrt
  clear hrt
  have hu26 := Try.underlying26
  have hu31 := Try.underlying31
  have HR0 := Aside0.mk hr0
  have HC0 := Aside0.mk hc0
  clear hr0 hc0
  have HB := Aside0.mk (Below.refl w.heap.size w)
  have H : ((grommetlaw01_up.f k).bind fun t158 => (if (l0.length : Int) > 1000 then (some t158) else ((leb_U.f k l0 a1 a2).bind fun bt159 => ((leb_S.f k l0 a1 a2).bind fun bt162 => (if a2 < 1 then (grommetlaw01_LebReads.j0 k l0 a1 a2 t158 bt159.1 bt159.2.1 bt159.2.2 bt162.1 bt162.2.1 bt162.2.2 true) else (if a2 > 64 then (grommetlaw01_LebReads.j0 k l0 a1 a2 t158 bt159.1 bt159.2.1 bt159.2.2 bt162.1 bt162.2.1 bt162.2.2 true) else (if a1 < 0 then (grommetlaw01_LebReads.j0 k l0 a1 a2 t158 bt159.1 bt159.2.1 bt159.2.2 bt162.1 bt162.2.1 bt162.2.2 true) else (grommetlaw01_LebReads.j0 k l0 a1 a2 t158 bt159.1 bt159.2.1 bt159.2.2 bt162.1 bt162.2.1 bt162.2.2 (decide (a1 > (l0.length : Int))))))))))) = some r := h
  clear h
  replace H := Option.bind_eq_some_iff.mp H
  obtain ⟨t158, A40, H⟩ := H
  replace H : (if (l0.length : Int) > 1000 then (some t158) else ((leb_U.f k l0 a1 a2).bind fun bt159 => ((leb_S.f k l0 a1 a2).bind fun bt162 => (if a2 < 1 then (grommetlaw01_LebReads.j0 k l0 a1 a2 t158 bt159.1 bt159.2.1 bt159.2.2 bt162.1 bt162.2.1 bt162.2.2 true) else (if a2 > 64 then (grommetlaw01_LebReads.j0 k l0 a1 a2 t158 bt159.1 bt159.2.1 bt159.2.2 bt162.1 bt162.2.1 bt162.2.2 true) else (if a1 < 0 then (grommetlaw01_LebReads.j0 k l0 a1 a2 t158 bt159.1 bt159.2.1 bt159.2.2 bt162.1 bt162.2.1 bt162.2.2 true) else (grommetlaw01_LebReads.j0 k l0 a1 a2 t158 bt159.1 bt159.2.1 bt159.2.2 bt162.1 bt162.2.1 bt162.2.2 (decide (a1 > (l0.length : Int)))))))))) = some r := H
  have A4 := Aside0.mk A40
  clear A40
  by_cases c5 : (l0.length : Int) > 1000
  · rw [if_pos c5] at H
    have c5b0 : decide (1000 < (l0.length : Int)) = true := decide_eq_true c5
    have c5b1 : decide (1000 < l0.length) = true := decide_eq_true (by omega)
    clear c5
    obtain rfl := Option.some.inj H
    go_enter Try.func3, Try.ntmps3
    go_wp2_with (first | ((with_reducible refine gate_callee (f := 9) rfl ?_); refine goesL_ (some 22) rfl rfl Try.func9 (by kernel_rfl) rfl #[] rfl (by (try simp only [List.map_toArray, List.map_cons, List.map_nil]); first | done | rfl | (simp only [List.length_drop, List.length_take]; rfl)) ?_; (with_reducible refine (grommetlaw01_up.calls k  t158 _ A4.out).mono ?_); rintro e w6 ⟨rfl, hb⟩; refine ⟨_, rfl, ?_⟩; have n0_ := Aside0.mk (below_step (by repeat (first | (with_reducible first | exact HB.out | apply below_alloc | apply pw_below_drewN | apply below_drew1) | exact HB.out)) hb); clear HB; have HB := n0_; clear n0_; (try clear hb); (try clear hb2); (try clear hk); (try clear hi)))
    go_ret
    exact ⟨by first | rfl | (simp [errW_none, errW_some] <;> rfl) | (simp [*, errW_none, errW_some] <;> rfl), by repeat (first | (with_reducible first | exact HB.out | apply below_alloc | apply pw_below_drewN | apply below_drew1) | exact HB.out)⟩
  · rw [if_neg c5] at H
    have c5b0 : decide (1000 < (l0.length : Int)) = false := decide_eq_false c5
    have c5b1 : decide (1000 < l0.length) = false := decide_eq_false (by omega)
    clear c5
    replace H := Option.bind_eq_some_iff.mp H
    obtain ⟨⟨t159, t160, t161⟩, A70, H⟩ := H
    replace H : ((leb_S.f k l0 a1 a2).bind fun bt162 => (if a2 < 1 then (grommetlaw01_LebReads.j0 k l0 a1 a2 t158 t159 t160 t161 bt162.1 bt162.2.1 bt162.2.2 true) else (if a2 > 64 then (grommetlaw01_LebReads.j0 k l0 a1 a2 t158 t159 t160 t161 bt162.1 bt162.2.1 bt162.2.2 true) else (if a1 < 0 then (grommetlaw01_LebReads.j0 k l0 a1 a2 t158 t159 t160 t161 bt162.1 bt162.2.1 bt162.2.2 true) else (grommetlaw01_LebReads.j0 k l0 a1 a2 t158 t159 t160 t161 bt162.1 bt162.2.1 bt162.2.2 (decide (a1 > (l0.length : Int)))))))) = some r := H
    have A7 := Aside0.mk A70
    clear A70
    replace H := Option.bind_eq_some_iff.mp H
    obtain ⟨⟨t162, t163, t164⟩, A80, H⟩ := H
    replace H : (if a2 < 1 then (grommetlaw01_LebReads.j0 k l0 a1 a2 t158 t159 t160 t161 t162 t163 t164 true) else (if a2 > 64 then (grommetlaw01_LebReads.j0 k l0 a1 a2 t158 t159 t160 t161 t162 t163 t164 true) else (if a1 < 0 then (grommetlaw01_LebReads.j0 k l0 a1 a2 t158 t159 t160 t161 t162 t163 t164 true) else (grommetlaw01_LebReads.j0 k l0 a1 a2 t158 t159 t160 t161 t162 t163 t164 (decide (a1 > (l0.length : Int))))))) = some r := H
    have A8 := Aside0.mk A80
    clear A80
    have HC9 := Aside0.mk H
    clear H
    go_enter Try.func3, Try.ntmps3
    go_upto_region 6 with (first | ((with_reducible refine gate_callee (f := 9) rfl ?_); refine goesL_ (some 22) rfl rfl Try.func9 (by kernel_rfl) rfl #[] rfl (by (try simp only [List.map_toArray, List.map_cons, List.map_nil]); first | done | rfl | (simp only [List.length_drop, List.length_take]; rfl)) ?_; (with_reducible refine (grommetlaw01_up.calls k  t158 _ A4.out).mono ?_); rintro e w10 ⟨rfl, hb⟩; refine ⟨_, rfl, ?_⟩; have n0_ := Aside0.mk (below_step (by repeat (first | (with_reducible first | exact HB.out | apply below_alloc | apply pw_below_drewN | apply below_drew1) | exact HB.out)) hb); clear HB; have HB := n0_; clear n0_; (try clear hb); (try clear hb2); (try clear hk); (try clear hi)) | ((with_reducible refine gate_callee (f := 10) rfl ?_); refine goesL_ (some 31) rfl rfl Try.func10 (by kernel_rfl) rfl #[.slice A0 l0.length c0, .int .i64 a1, .int .i64 a2] rfl (by (try simp only [List.map_toArray, List.map_cons, List.map_nil]); first | done | rfl | (simp only [List.length_drop, List.length_take]; rfl)) ?_; (with_reducible refine (leb_U.calls k _ _ l0 a1 a2 t159 t160 t161 _ ?side1 ?side2 A7.out).mono ?_); (case side1 => repeat (first | exact (Kd.C_below HR0.out HB.out) | (with_reducible refine Kd.C_alloc ?_ _) | (with_reducible refine Kd.C_drewN ?_ _) | (with_reducible refine Kd.C_drew ?_))); (case side2 => exact HC0.out); rintro e w' ⟨rfl, ⟨nd, rfl⟩⟩; refine ⟨_, rfl, ?_⟩; (try simp only [errW_none, errW_some])) | ((with_reducible refine gate_callee (f := 11) rfl ?_); refine goesL_ (some 39) rfl rfl Try.func11 (by kernel_rfl) rfl #[.slice A0 l0.length c0, .int .i64 a1, .int .i64 a2] rfl (by (try simp only [List.map_toArray, List.map_cons, List.map_nil]); first | done | rfl | (simp only [List.length_drop, List.length_take]; rfl)) ?_; (with_reducible refine (leb_S.calls k _ _ l0 a1 a2 t162 t163 t164 _ ?side1 ?side2 A8.out).mono ?_); (case side1 => repeat (first | exact (Kd.C_below HR0.out (by repeat (first | (with_reducible first | exact HB.out | apply below_alloc | apply pw_below_drewN | apply below_drew1) | exact HB.out))) | (with_reducible refine Kd.C_alloc ?_ _) | (with_reducible refine Kd.C_drewN ?_ _) | (with_reducible refine Kd.C_drew ?_))); (case side2 => exact HC0.out); rintro e w' ⟨rfl, ⟨nd, rfl⟩⟩; refine ⟨_, rfl, ?_⟩; (try simp only [errW_none, errW_some])))
    (try simp only [Act.put, List.setIfInBounds_toArray, List.set_cons_zero, List.set_cons_succ])
    go_cut [58] (fun v58 wc => ∃ (kq : Nat) (x58_8 : Bool), v58 = .bool x58_8 ∧ Aside0 (grommetlaw01_LebReads.j0 kq l0 a1 a2 t158 t159 t160 t161 t162 t163 t164 x58_8 = some r) ∧ Aside0 (kq ≤ k) ∧ Aside0 (Below w.heap.size w wc))
    case first =>
      have H := HC9.out
      clear HC9
      by_cases c11 : a2 < 1
      · rw [if_pos c11] at H
        have c11b0 : decide (a2 < 1) = true := decide_eq_true c11
        clear c11
        (first | rw [c11b0] | (simp only [i64_w, i32_w]; rw [c11b0]) | skip)
        have H' := Aside0.mk H
        clear H
        go_wp2
        go_meet
        case rel => exact ⟨_, (true), (by first | rfl | (simp; done) | (simp [*]; done)), H', ⟨by first | omega | exact Nat.le_refl _⟩, ⟨by repeat (first | (with_reducible first | exact HB.out | apply below_alloc | apply pw_below_drewN | apply below_drew1) | exact HB.out)⟩⟩
      · rw [if_neg c11] at H
        have c11b0 : decide (a2 < 1) = false := decide_eq_false c11
        clear c11
        (first | rw [c11b0] | (simp only [i64_w, i32_w]; rw [c11b0]) | skip)
        by_cases c12 : a2 > 64
        · rw [if_pos c12] at H
          have c12b0 : decide (64 < a2) = true := decide_eq_true c12
          clear c12
          have H' := Aside0.mk H
          clear H
          go_wp2
          go_meet
          case rel => exact ⟨_, (true), (by first | rfl | (simp; done) | (simp [*]; done)), H', ⟨by first | omega | exact Nat.le_refl _⟩, ⟨by repeat (first | (with_reducible first | exact HB.out | apply below_alloc | apply pw_below_drewN | apply below_drew1) | exact HB.out)⟩⟩
        · rw [if_neg c12] at H
          have c12b0 : decide (64 < a2) = false := decide_eq_false c12
          clear c12
          by_cases c13 : a1 < 0
          · rw [if_pos c13] at H
            have c13b0 : decide (a1 < 0) = true := decide_eq_true c13
            clear c13
            have H' := Aside0.mk H
            clear H
            go_wp2
            go_meet
            case rel => exact ⟨_, (true), (by first | rfl | (simp; done) | (simp [*]; done)), H', ⟨by first | omega | exact Nat.le_refl _⟩, ⟨by repeat (first | (with_reducible first | exact HB.out | apply below_alloc | apply pw_below_drewN | apply below_drew1) | exact HB.out)⟩⟩
          · rw [if_neg c13] at H
            have c13b0 : decide (a1 < 0) = false := decide_eq_false c13
            clear c13
            have H' := Aside0.mk H
            clear H
            go_wp2
            go_meet
            case rel => exact ⟨_, (decide (a1 > (l0.length : Int))), (by first | rfl | (simp; done) | (simp [*]; done)), H', ⟨by first | omega | exact Nat.le_refl _⟩, ⟨by repeat (first | (with_reducible first | exact HB.out | apply below_alloc | apply pw_below_drewN | apply below_drew1) | exact HB.out)⟩⟩
    case rest =>
      clear HC9
      try clear c1
      try clear p2
      try clear c3
      try clear c5
      try clear c5b0
      try clear c5b1
      try clear c9
      try clear c10
      try clear c11
      try clear c11b0
      try clear c12
      try clear c12b0
      try clear c13
      try clear c13b0
      obtain ⟨kq, x58_8, rfl, HA, HJ8, HB⟩ := hcut
      cases kq with
      | zero => exact absurd HA.out (by simp [grommetlaw01_LebReads.j0])
      | succ kj8 =>
        have H := HA.out
        clear HA
        simp only [grommetlaw01_LebReads.j0] at H
        by_cases c14 : x58_8 = true
        · subst c14
          have H1 : (if t158 = true then (if t161.isNone = true then (some false) else (if (t161.getD 0) = 1 then (if t164.isNone = true then (some false) else (if (t164.getD 0) = 1 then (if t159 = 0 then (if t162 = 0 then (if t160 = 0 then (some (t163 == 0)) else (some false)) else (some false)) else (some false)) else (some false))) else (some false))) else (some false)) = some r := by rw [if_pos rfl] at H; exact H
          clear H
          have H := H1
          clear H1
          by_cases c15 : t158 = true
          · subst c15
            have H1 : (if t161.isNone = true then (some false) else (if (t161.getD 0) = 1 then (if t164.isNone = true then (some false) else (if (t164.getD 0) = 1 then (if t159 = 0 then (if t162 = 0 then (if t160 = 0 then (some (t163 == 0)) else (some false)) else (some false)) else (some false)) else (some false))) else (some false))) = some r := by rw [if_pos rfl] at H; exact H
            clear H
            have H := H1
            clear H1
            rcases t161 with _ | q165
            · have H1 : (some false) = some r := by rw [if_pos (show (none : Option Int).isNone = true by rfl)] at H; exact H
              clear H
              have H := H1
              clear H1
              try simp only [errW_none, errW_some]
              exact absurd ((Option.some.inj H).trans HRT.out) (by decide)
            · have H1 : (if q165 = 1 then (if t164.isNone = true then (some false) else (if (t164.getD 0) = 1 then (if t159 = 0 then (if t162 = 0 then (if t160 = 0 then (some (t163 == 0)) else (some false)) else (some false)) else (some false)) else (some false))) else (some false)) = some r := by rw [if_neg (show ¬ (some q165).isNone = true by simp)] at H; exact H
              clear H
              have H := H1
              clear H1
              try simp only [errW_none, errW_some]
              by_cases c16 : q165 = 1
              · rw [if_pos c16] at H
                have c16b0 : (q165 == 1) = true := beq_iff_eq.mpr c16
                have c16b1 : (q165 != 1) = false := bne_eq_false_iff_eq.mpr c16
                clear c16
                rcases t164 with _ | q166
                · have H1 : (some false) = some r := by rw [if_pos (show (none : Option Int).isNone = true by rfl)] at H; exact H
                  clear H
                  have H := H1
                  clear H1
                  try simp only [errW_none, errW_some]
                  exact absurd ((Option.some.inj H).trans HRT.out) (by decide)
                · have H1 : (if q166 = 1 then (if t159 = 0 then (if t162 = 0 then (if t160 = 0 then (some (t163 == 0)) else (some false)) else (some false)) else (some false)) else (some false)) = some r := by rw [if_neg (show ¬ (some q166).isNone = true by simp)] at H; exact H
                  clear H
                  have H := H1
                  clear H1
                  try simp only [errW_none, errW_some]
                  by_cases c17 : q166 = 1
                  · rw [if_pos c17] at H
                    have c17b0 : (q166 == 1) = true := beq_iff_eq.mpr c17
                    have c17b1 : (q166 != 1) = false := bne_eq_false_iff_eq.mpr c17
                    clear c17
                    by_cases c18 : t159 = 0
                    · rw [if_pos c18] at H
                      have c18b0 : (t159 == 0) = true := beq_iff_eq.mpr c18
                      have c18b1 : (t159 != 0) = false := bne_eq_false_iff_eq.mpr c18
                      clear c18
                      by_cases c19 : t162 = 0
                      · rw [if_pos c19] at H
                        have c19b0 : (t162 == 0) = true := beq_iff_eq.mpr c19
                        have c19b1 : (t162 != 0) = false := bne_eq_false_iff_eq.mpr c19
                        clear c19
                        by_cases c20 : t160 = 0
                        · rw [if_pos c20] at H
                          have c20b0 : (t160 == 0) = true := beq_iff_eq.mpr c20
                          have c20b1 : (t160 != 0) = false := bne_eq_false_iff_eq.mpr c20
                          clear c20
                          obtain rfl := Option.some.inj H
                          go_wp2
                          go_ret
                          exact ⟨by first | rfl | (simp [errW_none, errW_some] <;> rfl) | (simp [*, errW_none, errW_some] <;> rfl), by repeat (first | (with_reducible first | exact HB.out | apply below_alloc | apply pw_below_drewN | apply below_drew1) | exact HB.out)⟩
                        · rw [if_neg c20] at H
                          have c20b0 : (t160 == 0) = false := beq_eq_false_iff_ne.mpr c20
                          have c20b1 : (t160 != 0) = true := bne_iff_ne.mpr c20
                          exact absurd ((Option.some.inj H).trans HRT.out) (by decide)
                      · rw [if_neg c19] at H
                        have c19b0 : (t162 == 0) = false := beq_eq_false_iff_ne.mpr c19
                        have c19b1 : (t162 != 0) = true := bne_iff_ne.mpr c19
                        exact absurd ((Option.some.inj H).trans HRT.out) (by decide)
                    · rw [if_neg c18] at H
                      have c18b0 : (t159 == 0) = false := beq_eq_false_iff_ne.mpr c18
                      have c18b1 : (t159 != 0) = true := bne_iff_ne.mpr c18
                      exact absurd ((Option.some.inj H).trans HRT.out) (by decide)
                  · rw [if_neg c17] at H
                    have c17b0 : (q166 == 1) = false := beq_eq_false_iff_ne.mpr c17
                    have c17b1 : (q166 != 1) = true := bne_iff_ne.mpr c17
                    exact absurd ((Option.some.inj H).trans HRT.out) (by decide)
              · rw [if_neg c16] at H
                have c16b0 : (q165 == 1) = false := beq_eq_false_iff_ne.mpr c16
                have c16b1 : (q165 != 1) = true := bne_iff_ne.mpr c16
                exact absurd ((Option.some.inj H).trans HRT.out) (by decide)
          · replace c15 := Bool.eq_false_iff.mpr c15
            subst c15
            have H1 : (some false) = some r := by rw [if_neg (show ¬ (false = true) by decide)] at H; exact H
            clear H
            have H := H1
            clear H1
            exact absurd ((Option.some.inj H).trans HRT.out) (by decide)
        · replace c14 := Bool.eq_false_iff.mpr c14
          subst c14
          have H1 : ((grommetref01_Read.f kj8 l0 a1 a2 false).bind fun bt167 => ((grommetref01_Read.f kj8 l0 a1 a2 true).bind fun bt170 => (if bt167.2.2 = true then (if t161.isNone = true then (if t159 = bt167.1 then (if t160 = bt167.2.1 then (if bt170.2.2 = true then (if t164.isNone = true then (if (IntKind.u64.wrap (t162)) = bt170.1 then (if t163 = bt170.2.1 then (if t158 = true then (some true) else (some false)) else (if t158 = true then (some false) else (some false))) else (if t158 = true then (some false) else (some false))) else (if t158 = true then (some false) else (some false))) else (if t164.isNone = true then (if t158 = true then (some false) else (some false)) else (if (t164.getD 0) = 2 then (if t162 = 0 then (if t158 = true then (some (t163 == 0)) else (some false)) else (if t158 = true then (some false) else (some false))) else (if t158 = true then (some false) else (some false))))) else (if bt170.2.2 = true then (if t164.isNone = true then (if (IntKind.u64.wrap (t162)) = bt170.1 then (if t163 = bt170.2.1 then (if t158 = true then (some false) else (some false)) else (if t158 = true then (some false) else (some false))) else (if t158 = true then (some false) else (some false))) else (if t158 = true then (some false) else (some false))) else (if t164.isNone = true then (if t158 = true then (some false) else (some false)) else (if (t164.getD 0) = 2 then (if t162 = 0 then (if t158 = true then (some false) else (some false)) else (if t158 = true then (some false) else (some false))) else (if t158 = true then (some false) else (some false)))))) else (if bt170.2.2 = true then (if t164.isNone = true then (if (IntKind.u64.wrap (t162)) = bt170.1 then (if t163 = bt170.2.1 then (if t158 = true then (some false) else (some false)) else (if t158 = true then (some false) else (some false))) else (if t158 = true then (some false) else (some false))) else (if t158 = true then (some false) else (some false))) else (if t164.isNone = true then (if t158 = true then (some false) else (some false)) else (if (t164.getD 0) = 2 then (if t162 = 0 then (if t158 = true then (some false) else (some false)) else (if t158 = true then (some false) else (some false))) else (if t158 = true then (some false) else (some false)))))) else (if bt170.2.2 = true then (if t164.isNone = true then (if (IntKind.u64.wrap (t162)) = bt170.1 then (if t163 = bt170.2.1 then (if t158 = true then (some false) else (some false)) else (if t158 = true then (some false) else (some false))) else (if t158 = true then (some false) else (some false))) else (if t158 = true then (some false) else (some false))) else (if t164.isNone = true then (if t158 = true then (some false) else (some false)) else (if (t164.getD 0) = 2 then (if t162 = 0 then (if t158 = true then (some false) else (some false)) else (if t158 = true then (some false) else (some false))) else (if t158 = true then (some false) else (some false)))))) else (if t161.isNone = true then (if bt170.2.2 = true then (if t164.isNone = true then (if (IntKind.u64.wrap (t162)) = bt170.1 then (if t163 = bt170.2.1 then (if t158 = true then (some false) else (some false)) else (if t158 = true then (some false) else (some false))) else (if t158 = true then (some false) else (some false))) else (if t158 = true then (some false) else (some false))) else (if t164.isNone = true then (if t158 = true then (some false) else (some false)) else (if (t164.getD 0) = 2 then (if t162 = 0 then (if t158 = true then (some false) else (some false)) else (if t158 = true then (some false) else (some false))) else (if t158 = true then (some false) else (some false))))) else (if (t161.getD 0) = 2 then (if t159 = 0 then (if bt170.2.2 = true then (if t164.isNone = true then (if (IntKind.u64.wrap (t162)) = bt170.1 then (if t163 = bt170.2.1 then (if t158 = true then (if t160 = 0 then (some true) else (some false)) else (some false)) else (if t158 = true then (if t160 = 0 then (some false) else (some false)) else (some false))) else (if t158 = true then (if t160 = 0 then (some false) else (some false)) else (some false))) else (if t158 = true then (if t160 = 0 then (some false) else (some false)) else (some false))) else (if t164.isNone = true then (if t158 = true then (if t160 = 0 then (some false) else (some false)) else (some false)) else (if (t164.getD 0) = 2 then (if t162 = 0 then (if t158 = true then (if t160 = 0 then (some (t163 == 0)) else (some false)) else (some false)) else (if t158 = true then (if t160 = 0 then (some false) else (some false)) else (some false))) else (if t158 = true then (if t160 = 0 then (some false) else (some false)) else (some false))))) else (if bt170.2.2 = true then (if t164.isNone = true then (if (IntKind.u64.wrap (t162)) = bt170.1 then (if t163 = bt170.2.1 then (if t158 = true then (some false) else (some false)) else (if t158 = true then (some false) else (some false))) else (if t158 = true then (some false) else (some false))) else (if t158 = true then (some false) else (some false))) else (if t164.isNone = true then (if t158 = true then (some false) else (some false)) else (if (t164.getD 0) = 2 then (if t162 = 0 then (if t158 = true then (some false) else (some false)) else (if t158 = true then (some false) else (some false))) else (if t158 = true then (some false) else (some false)))))) else (if bt170.2.2 = true then (if t164.isNone = true then (if (IntKind.u64.wrap (t162)) = bt170.1 then (if t163 = bt170.2.1 then (if t158 = true then (some false) else (some false)) else (if t158 = true then (some false) else (some false))) else (if t158 = true then (some false) else (some false))) else (if t158 = true then (some false) else (some false))) else (if t164.isNone = true then (if t158 = true then (some false) else (some false)) else (if (t164.getD 0) = 2 then (if t162 = 0 then (if t158 = true then (some false) else (some false)) else (if t158 = true then (some false) else (some false))) else (if t158 = true then (some false) else (some false)))))))))) = some r := by rw [if_neg (show ¬ (false = true) by decide)] at H; exact H
          clear H
          have H := H1
          clear H1
          replace H := Option.bind_eq_some_iff.mp H
          obtain ⟨⟨t167, t168, t169⟩, A210, H⟩ := H
          replace H : ((grommetref01_Read.f kj8 l0 a1 a2 true).bind fun bt170 => (if t169 = true then (if t161.isNone = true then (if t159 = t167 then (if t160 = t168 then (if bt170.2.2 = true then (if t164.isNone = true then (if (IntKind.u64.wrap (t162)) = bt170.1 then (if t163 = bt170.2.1 then (if t158 = true then (some true) else (some false)) else (if t158 = true then (some false) else (some false))) else (if t158 = true then (some false) else (some false))) else (if t158 = true then (some false) else (some false))) else (if t164.isNone = true then (if t158 = true then (some false) else (some false)) else (if (t164.getD 0) = 2 then (if t162 = 0 then (if t158 = true then (some (t163 == 0)) else (some false)) else (if t158 = true then (some false) else (some false))) else (if t158 = true then (some false) else (some false))))) else (if bt170.2.2 = true then (if t164.isNone = true then (if (IntKind.u64.wrap (t162)) = bt170.1 then (if t163 = bt170.2.1 then (if t158 = true then (some false) else (some false)) else (if t158 = true then (some false) else (some false))) else (if t158 = true then (some false) else (some false))) else (if t158 = true then (some false) else (some false))) else (if t164.isNone = true then (if t158 = true then (some false) else (some false)) else (if (t164.getD 0) = 2 then (if t162 = 0 then (if t158 = true then (some false) else (some false)) else (if t158 = true then (some false) else (some false))) else (if t158 = true then (some false) else (some false)))))) else (if bt170.2.2 = true then (if t164.isNone = true then (if (IntKind.u64.wrap (t162)) = bt170.1 then (if t163 = bt170.2.1 then (if t158 = true then (some false) else (some false)) else (if t158 = true then (some false) else (some false))) else (if t158 = true then (some false) else (some false))) else (if t158 = true then (some false) else (some false))) else (if t164.isNone = true then (if t158 = true then (some false) else (some false)) else (if (t164.getD 0) = 2 then (if t162 = 0 then (if t158 = true then (some false) else (some false)) else (if t158 = true then (some false) else (some false))) else (if t158 = true then (some false) else (some false)))))) else (if bt170.2.2 = true then (if t164.isNone = true then (if (IntKind.u64.wrap (t162)) = bt170.1 then (if t163 = bt170.2.1 then (if t158 = true then (some false) else (some false)) else (if t158 = true then (some false) else (some false))) else (if t158 = true then (some false) else (some false))) else (if t158 = true then (some false) else (some false))) else (if t164.isNone = true then (if t158 = true then (some false) else (some false)) else (if (t164.getD 0) = 2 then (if t162 = 0 then (if t158 = true then (some false) else (some false)) else (if t158 = true then (some false) else (some false))) else (if t158 = true then (some false) else (some false)))))) else (if t161.isNone = true then (if bt170.2.2 = true then (if t164.isNone = true then (if (IntKind.u64.wrap (t162)) = bt170.1 then (if t163 = bt170.2.1 then (if t158 = true then (some false) else (some false)) else (if t158 = true then (some false) else (some false))) else (if t158 = true then (some false) else (some false))) else (if t158 = true then (some false) else (some false))) else (if t164.isNone = true then (if t158 = true then (some false) else (some false)) else (if (t164.getD 0) = 2 then (if t162 = 0 then (if t158 = true then (some false) else (some false)) else (if t158 = true then (some false) else (some false))) else (if t158 = true then (some false) else (some false))))) else (if (t161.getD 0) = 2 then (if t159 = 0 then (if bt170.2.2 = true then (if t164.isNone = true then (if (IntKind.u64.wrap (t162)) = bt170.1 then (if t163 = bt170.2.1 then (if t158 = true then (if t160 = 0 then (some true) else (some false)) else (some false)) else (if t158 = true then (if t160 = 0 then (some false) else (some false)) else (some false))) else (if t158 = true then (if t160 = 0 then (some false) else (some false)) else (some false))) else (if t158 = true then (if t160 = 0 then (some false) else (some false)) else (some false))) else (if t164.isNone = true then (if t158 = true then (if t160 = 0 then (some false) else (some false)) else (some false)) else (if (t164.getD 0) = 2 then (if t162 = 0 then (if t158 = true then (if t160 = 0 then (some (t163 == 0)) else (some false)) else (some false)) else (if t158 = true then (if t160 = 0 then (some false) else (some false)) else (some false))) else (if t158 = true then (if t160 = 0 then (some false) else (some false)) else (some false))))) else (if bt170.2.2 = true then (if t164.isNone = true then (if (IntKind.u64.wrap (t162)) = bt170.1 then (if t163 = bt170.2.1 then (if t158 = true then (some false) else (some false)) else (if t158 = true then (some false) else (some false))) else (if t158 = true then (some false) else (some false))) else (if t158 = true then (some false) else (some false))) else (if t164.isNone = true then (if t158 = true then (some false) else (some false)) else (if (t164.getD 0) = 2 then (if t162 = 0 then (if t158 = true then (some false) else (some false)) else (if t158 = true then (some false) else (some false))) else (if t158 = true then (some false) else (some false)))))) else (if bt170.2.2 = true then (if t164.isNone = true then (if (IntKind.u64.wrap (t162)) = bt170.1 then (if t163 = bt170.2.1 then (if t158 = true then (some false) else (some false)) else (if t158 = true then (some false) else (some false))) else (if t158 = true then (some false) else (some false))) else (if t158 = true then (some false) else (some false))) else (if t164.isNone = true then (if t158 = true then (some false) else (some false)) else (if (t164.getD 0) = 2 then (if t162 = 0 then (if t158 = true then (some false) else (some false)) else (if t158 = true then (some false) else (some false))) else (if t158 = true then (some false) else (some false))))))))) = some r := H
          have A21 := Aside0.mk A210
          clear A210
          replace H := Option.bind_eq_some_iff.mp H
          obtain ⟨⟨t170, t171, t172⟩, A220, H⟩ := H
          replace H : (if t169 = true then (if t161.isNone = true then (if t159 = t167 then (if t160 = t168 then (if t172 = true then (if t164.isNone = true then (if (IntKind.u64.wrap (t162)) = t170 then (if t163 = t171 then (if t158 = true then (some true) else (some false)) else (if t158 = true then (some false) else (some false))) else (if t158 = true then (some false) else (some false))) else (if t158 = true then (some false) else (some false))) else (if t164.isNone = true then (if t158 = true then (some false) else (some false)) else (if (t164.getD 0) = 2 then (if t162 = 0 then (if t158 = true then (some (t163 == 0)) else (some false)) else (if t158 = true then (some false) else (some false))) else (if t158 = true then (some false) else (some false))))) else (if t172 = true then (if t164.isNone = true then (if (IntKind.u64.wrap (t162)) = t170 then (if t163 = t171 then (if t158 = true then (some false) else (some false)) else (if t158 = true then (some false) else (some false))) else (if t158 = true then (some false) else (some false))) else (if t158 = true then (some false) else (some false))) else (if t164.isNone = true then (if t158 = true then (some false) else (some false)) else (if (t164.getD 0) = 2 then (if t162 = 0 then (if t158 = true then (some false) else (some false)) else (if t158 = true then (some false) else (some false))) else (if t158 = true then (some false) else (some false)))))) else (if t172 = true then (if t164.isNone = true then (if (IntKind.u64.wrap (t162)) = t170 then (if t163 = t171 then (if t158 = true then (some false) else (some false)) else (if t158 = true then (some false) else (some false))) else (if t158 = true then (some false) else (some false))) else (if t158 = true then (some false) else (some false))) else (if t164.isNone = true then (if t158 = true then (some false) else (some false)) else (if (t164.getD 0) = 2 then (if t162 = 0 then (if t158 = true then (some false) else (some false)) else (if t158 = true then (some false) else (some false))) else (if t158 = true then (some false) else (some false)))))) else (if t172 = true then (if t164.isNone = true then (if (IntKind.u64.wrap (t162)) = t170 then (if t163 = t171 then (if t158 = true then (some false) else (some false)) else (if t158 = true then (some false) else (some false))) else (if t158 = true then (some false) else (some false))) else (if t158 = true then (some false) else (some false))) else (if t164.isNone = true then (if t158 = true then (some false) else (some false)) else (if (t164.getD 0) = 2 then (if t162 = 0 then (if t158 = true then (some false) else (some false)) else (if t158 = true then (some false) else (some false))) else (if t158 = true then (some false) else (some false)))))) else (if t161.isNone = true then (if t172 = true then (if t164.isNone = true then (if (IntKind.u64.wrap (t162)) = t170 then (if t163 = t171 then (if t158 = true then (some false) else (some false)) else (if t158 = true then (some false) else (some false))) else (if t158 = true then (some false) else (some false))) else (if t158 = true then (some false) else (some false))) else (if t164.isNone = true then (if t158 = true then (some false) else (some false)) else (if (t164.getD 0) = 2 then (if t162 = 0 then (if t158 = true then (some false) else (some false)) else (if t158 = true then (some false) else (some false))) else (if t158 = true then (some false) else (some false))))) else (if (t161.getD 0) = 2 then (if t159 = 0 then (if t172 = true then (if t164.isNone = true then (if (IntKind.u64.wrap (t162)) = t170 then (if t163 = t171 then (if t158 = true then (if t160 = 0 then (some true) else (some false)) else (some false)) else (if t158 = true then (if t160 = 0 then (some false) else (some false)) else (some false))) else (if t158 = true then (if t160 = 0 then (some false) else (some false)) else (some false))) else (if t158 = true then (if t160 = 0 then (some false) else (some false)) else (some false))) else (if t164.isNone = true then (if t158 = true then (if t160 = 0 then (some false) else (some false)) else (some false)) else (if (t164.getD 0) = 2 then (if t162 = 0 then (if t158 = true then (if t160 = 0 then (some (t163 == 0)) else (some false)) else (some false)) else (if t158 = true then (if t160 = 0 then (some false) else (some false)) else (some false))) else (if t158 = true then (if t160 = 0 then (some false) else (some false)) else (some false))))) else (if t172 = true then (if t164.isNone = true then (if (IntKind.u64.wrap (t162)) = t170 then (if t163 = t171 then (if t158 = true then (some false) else (some false)) else (if t158 = true then (some false) else (some false))) else (if t158 = true then (some false) else (some false))) else (if t158 = true then (some false) else (some false))) else (if t164.isNone = true then (if t158 = true then (some false) else (some false)) else (if (t164.getD 0) = 2 then (if t162 = 0 then (if t158 = true then (some false) else (some false)) else (if t158 = true then (some false) else (some false))) else (if t158 = true then (some false) else (some false)))))) else (if t172 = true then (if t164.isNone = true then (if (IntKind.u64.wrap (t162)) = t170 then (if t163 = t171 then (if t158 = true then (some false) else (some false)) else (if t158 = true then (some false) else (some false))) else (if t158 = true then (some false) else (some false))) else (if t158 = true then (some false) else (some false))) else (if t164.isNone = true then (if t158 = true then (some false) else (some false)) else (if (t164.getD 0) = 2 then (if t162 = 0 then (if t158 = true then (some false) else (some false)) else (if t158 = true then (some false) else (some false))) else (if t158 = true then (some false) else (some false)))))))) = some r := H
          have A22 := Aside0.mk A220
          clear A220
          by_cases c23 : t169 = true
          · subst c23
            have H1 : (if t161.isNone = true then (if t159 = t167 then (if t160 = t168 then (if t172 = true then (if t164.isNone = true then (if (IntKind.u64.wrap (t162)) = t170 then (if t163 = t171 then (if t158 = true then (some true) else (some false)) else (if t158 = true then (some false) else (some false))) else (if t158 = true then (some false) else (some false))) else (if t158 = true then (some false) else (some false))) else (if t164.isNone = true then (if t158 = true then (some false) else (some false)) else (if (t164.getD 0) = 2 then (if t162 = 0 then (if t158 = true then (some (t163 == 0)) else (some false)) else (if t158 = true then (some false) else (some false))) else (if t158 = true then (some false) else (some false))))) else (if t172 = true then (if t164.isNone = true then (if (IntKind.u64.wrap (t162)) = t170 then (if t163 = t171 then (if t158 = true then (some false) else (some false)) else (if t158 = true then (some false) else (some false))) else (if t158 = true then (some false) else (some false))) else (if t158 = true then (some false) else (some false))) else (if t164.isNone = true then (if t158 = true then (some false) else (some false)) else (if (t164.getD 0) = 2 then (if t162 = 0 then (if t158 = true then (some false) else (some false)) else (if t158 = true then (some false) else (some false))) else (if t158 = true then (some false) else (some false)))))) else (if t172 = true then (if t164.isNone = true then (if (IntKind.u64.wrap (t162)) = t170 then (if t163 = t171 then (if t158 = true then (some false) else (some false)) else (if t158 = true then (some false) else (some false))) else (if t158 = true then (some false) else (some false))) else (if t158 = true then (some false) else (some false))) else (if t164.isNone = true then (if t158 = true then (some false) else (some false)) else (if (t164.getD 0) = 2 then (if t162 = 0 then (if t158 = true then (some false) else (some false)) else (if t158 = true then (some false) else (some false))) else (if t158 = true then (some false) else (some false)))))) else (if t172 = true then (if t164.isNone = true then (if (IntKind.u64.wrap (t162)) = t170 then (if t163 = t171 then (if t158 = true then (some false) else (some false)) else (if t158 = true then (some false) else (some false))) else (if t158 = true then (some false) else (some false))) else (if t158 = true then (some false) else (some false))) else (if t164.isNone = true then (if t158 = true then (some false) else (some false)) else (if (t164.getD 0) = 2 then (if t162 = 0 then (if t158 = true then (some false) else (some false)) else (if t158 = true then (some false) else (some false))) else (if t158 = true then (some false) else (some false)))))) = some r := by rw [if_pos rfl] at H; exact H
            clear H
            have H := H1
            clear H1
            rcases t161 with _ | q173
            · have H1 : (if t159 = t167 then (if t160 = t168 then (if t172 = true then (if t164.isNone = true then (if (IntKind.u64.wrap (t162)) = t170 then (if t163 = t171 then (if t158 = true then (some true) else (some false)) else (if t158 = true then (some false) else (some false))) else (if t158 = true then (some false) else (some false))) else (if t158 = true then (some false) else (some false))) else (if t164.isNone = true then (if t158 = true then (some false) else (some false)) else (if (t164.getD 0) = 2 then (if t162 = 0 then (if t158 = true then (some (t163 == 0)) else (some false)) else (if t158 = true then (some false) else (some false))) else (if t158 = true then (some false) else (some false))))) else (if t172 = true then (if t164.isNone = true then (if (IntKind.u64.wrap (t162)) = t170 then (if t163 = t171 then (if t158 = true then (some false) else (some false)) else (if t158 = true then (some false) else (some false))) else (if t158 = true then (some false) else (some false))) else (if t158 = true then (some false) else (some false))) else (if t164.isNone = true then (if t158 = true then (some false) else (some false)) else (if (t164.getD 0) = 2 then (if t162 = 0 then (if t158 = true then (some false) else (some false)) else (if t158 = true then (some false) else (some false))) else (if t158 = true then (some false) else (some false)))))) else (if t172 = true then (if t164.isNone = true then (if (IntKind.u64.wrap (t162)) = t170 then (if t163 = t171 then (if t158 = true then (some false) else (some false)) else (if t158 = true then (some false) else (some false))) else (if t158 = true then (some false) else (some false))) else (if t158 = true then (some false) else (some false))) else (if t164.isNone = true then (if t158 = true then (some false) else (some false)) else (if (t164.getD 0) = 2 then (if t162 = 0 then (if t158 = true then (some false) else (some false)) else (if t158 = true then (some false) else (some false))) else (if t158 = true then (some false) else (some false)))))) = some r := by rw [if_pos (show (none : Option Int).isNone = true by rfl)] at H; exact H
              clear H
              have H := H1
              clear H1
              try simp only [errW_none, errW_some]
              by_cases c24 : t159 = t167
              · rw [if_pos c24] at H
                have c24b0 : (t159 == t167) = true := beq_iff_eq.mpr c24
                have c24b1 : (t159 != t167) = false := bne_eq_false_iff_eq.mpr c24
                clear c24
                by_cases c25 : t160 = t168
                · rw [if_pos c25] at H
                  have c25b0 : (t160 == t168) = true := beq_iff_eq.mpr c25
                  have c25b1 : (t160 != t168) = false := bne_eq_false_iff_eq.mpr c25
                  clear c25
                  by_cases c26 : t172 = true
                  · subst c26
                    have H1 : (if t164.isNone = true then (if (IntKind.u64.wrap (t162)) = t170 then (if t163 = t171 then (if t158 = true then (some true) else (some false)) else (if t158 = true then (some false) else (some false))) else (if t158 = true then (some false) else (some false))) else (if t158 = true then (some false) else (some false))) = some r := by rw [if_pos rfl] at H; exact H
                    clear H
                    have H := H1
                    clear H1
                    rcases t164 with _ | q174
                    · have H1 : (if (IntKind.u64.wrap (t162)) = t170 then (if t163 = t171 then (if t158 = true then (some true) else (some false)) else (if t158 = true then (some false) else (some false))) else (if t158 = true then (some false) else (some false))) = some r := by rw [if_pos (show (none : Option Int).isNone = true by rfl)] at H; exact H
                      clear H
                      have H := H1
                      clear H1
                      try simp only [errW_none, errW_some]
                      by_cases c27 : (IntKind.u64.wrap (t162)) = t170
                      · rw [if_pos c27] at H
                        have c27b0 : ((IntKind.u64.wrap (t162)) == t170) = true := beq_iff_eq.mpr c27
                        have c27b1 : ((IntKind.u64.wrap (t162)) != t170) = false := bne_eq_false_iff_eq.mpr c27
                        clear c27
                        by_cases c28 : t163 = t171
                        · rw [if_pos c28] at H
                          have c28b0 : (t163 == t171) = true := beq_iff_eq.mpr c28
                          have c28b1 : (t163 != t171) = false := bne_eq_false_iff_eq.mpr c28
                          clear c28
                          by_cases c29 : t158 = true
                          · subst c29
                            have H1 : (some true) = some r := by rw [if_pos rfl] at H; exact H
                            clear H
                            have H := H1
                            clear H1
                            obtain rfl := Option.some.inj H
                            go_wp2_with (first | ((with_reducible refine gate_callee (f := 12) rfl ?_); refine goesL_ (some 90) rfl rfl Try.func12 (by kernel_rfl) rfl #[.slice A0 l0.length c0, .int .i64 a1, .int .i64 a2, .bool false] rfl (by (try simp only [List.map_toArray, List.map_cons, List.map_nil]); first | done | rfl | (simp only [List.length_drop, List.length_take]; rfl)) ?_; (with_reducible refine (grommetref01_Read.calls kj8 _ _ l0 a1 a2 false t167 t168 true _ ?side1 ?side2 A21.out).mono ?_); (case side1 => repeat (first | exact (Kd.C_below HR0.out HB.out) | (with_reducible refine Kd.C_alloc ?_ _) | (with_reducible refine Kd.C_drewN ?_ _) | (with_reducible refine Kd.C_drew ?_))); (case side2 => exact HC0.out); rintro e w30 ⟨rfl, hb⟩; refine ⟨_, rfl, ?_⟩; have n0_ := Aside0.mk (below_step (by repeat (first | (with_reducible first | exact HB.out | apply below_alloc | apply pw_below_drewN | apply below_drew1) | exact HB.out)) hb); clear HB; have HB := n0_; clear n0_; (try clear hb); (try clear hb2); (try clear hk); (try clear hi)) | ((with_reducible refine gate_callee (f := 12) rfl ?_); refine goesL_ (some 98) rfl rfl Try.func12 (by kernel_rfl) rfl #[.slice A0 l0.length c0, .int .i64 a1, .int .i64 a2, .bool true] rfl (by (try simp only [List.map_toArray, List.map_cons, List.map_nil]); first | done | rfl | (simp only [List.length_drop, List.length_take]; rfl)) ?_; (with_reducible refine (grommetref01_Read.calls kj8 _ _ l0 a1 a2 true t170 t171 true _ ?side1 ?side2 A22.out).mono ?_); (case side1 => repeat (first | exact (Kd.C_below HR0.out HB.out) | (with_reducible refine Kd.C_alloc ?_ _) | (with_reducible refine Kd.C_drewN ?_ _) | (with_reducible refine Kd.C_drew ?_))); (case side2 => exact HC0.out); rintro e w31 ⟨rfl, hb⟩; refine ⟨_, rfl, ?_⟩; have n0_ := Aside0.mk (below_step (by repeat (first | (with_reducible first | exact HB.out | apply below_alloc | apply pw_below_drewN | apply below_drew1) | exact HB.out)) hb); clear HB; have HB := n0_; clear n0_; (try clear hb); (try clear hb2); (try clear hk); (try clear hi)))
                            go_ret
                            exact ⟨by first | rfl | (simp [errW_none, errW_some] <;> rfl) | (simp [*, errW_none, errW_some] <;> rfl), by repeat (first | (with_reducible first | exact HB.out | apply below_alloc | apply pw_below_drewN | apply below_drew1) | exact HB.out)⟩
                          · replace c29 := Bool.eq_false_iff.mpr c29
                            subst c29
                            have H1 : (some false) = some r := by rw [if_neg (show ¬ (false = true) by decide)] at H; exact H
                            clear H
                            have H := H1
                            clear H1
                            exact absurd ((Option.some.inj H).trans HRT.out) (by decide)
                        · rw [if_neg c28] at H
                          have c28b0 : (t163 == t171) = false := beq_eq_false_iff_ne.mpr c28
                          have c28b1 : (t163 != t171) = true := bne_iff_ne.mpr c28
                          by_cases c32 : t158 = true
                          · subst c32
                            have H1 : (some false) = some r := by rw [if_pos rfl] at H; exact H
                            clear H
                            have H := H1
                            clear H1
                            exact absurd ((Option.some.inj H).trans HRT.out) (by decide)
                          · replace c32 := Bool.eq_false_iff.mpr c32
                            subst c32
                            have H1 : (some false) = some r := by rw [if_neg (show ¬ (false = true) by decide)] at H; exact H
                            clear H
                            have H := H1
                            clear H1
                            exact absurd ((Option.some.inj H).trans HRT.out) (by decide)
                      · rw [if_neg c27] at H
                        have c27b0 : ((IntKind.u64.wrap (t162)) == t170) = false := beq_eq_false_iff_ne.mpr c27
                        have c27b1 : ((IntKind.u64.wrap (t162)) != t170) = true := bne_iff_ne.mpr c27
                        by_cases c33 : t158 = true
                        · subst c33
                          have H1 : (some false) = some r := by rw [if_pos rfl] at H; exact H
                          clear H
                          have H := H1
                          clear H1
                          exact absurd ((Option.some.inj H).trans HRT.out) (by decide)
                        · replace c33 := Bool.eq_false_iff.mpr c33
                          subst c33
                          have H1 : (some false) = some r := by rw [if_neg (show ¬ (false = true) by decide)] at H; exact H
                          clear H
                          have H := H1
                          clear H1
                          exact absurd ((Option.some.inj H).trans HRT.out) (by decide)
                    · have H1 : (if t158 = true then (some false) else (some false)) = some r := by rw [if_neg (show ¬ (some q174).isNone = true by simp)] at H; exact H
                      clear H
                      have H := H1
                      clear H1
                      try simp only [errW_none, errW_some]
                      by_cases c34 : t158 = true
                      · subst c34
                        have H1 : (some false) = some r := by rw [if_pos rfl] at H; exact H
                        clear H
                        have H := H1
                        clear H1
                        exact absurd ((Option.some.inj H).trans HRT.out) (by decide)
                      · replace c34 := Bool.eq_false_iff.mpr c34
                        subst c34
                        have H1 : (some false) = some r := by rw [if_neg (show ¬ (false = true) by decide)] at H; exact H
                        clear H
                        have H := H1
                        clear H1
                        exact absurd ((Option.some.inj H).trans HRT.out) (by decide)
                  · replace c26 := Bool.eq_false_iff.mpr c26
                    subst c26
                    have H1 : (if t164.isNone = true then (if t158 = true then (some false) else (some false)) else (if (t164.getD 0) = 2 then (if t162 = 0 then (if t158 = true then (some (t163 == 0)) else (some false)) else (if t158 = true then (some false) else (some false))) else (if t158 = true then (some false) else (some false)))) = some r := by rw [if_neg (show ¬ (false = true) by decide)] at H; exact H
                    clear H
                    have H := H1
                    clear H1
                    rcases t164 with _ | q175
                    · have H1 : (if t158 = true then (some false) else (some false)) = some r := by rw [if_pos (show (none : Option Int).isNone = true by rfl)] at H; exact H
                      clear H
                      have H := H1
                      clear H1
                      try simp only [errW_none, errW_some]
                      by_cases c35 : t158 = true
                      · subst c35
                        have H1 : (some false) = some r := by rw [if_pos rfl] at H; exact H
                        clear H
                        have H := H1
                        clear H1
                        exact absurd ((Option.some.inj H).trans HRT.out) (by decide)
                      · replace c35 := Bool.eq_false_iff.mpr c35
                        subst c35
                        have H1 : (some false) = some r := by rw [if_neg (show ¬ (false = true) by decide)] at H; exact H
                        clear H
                        have H := H1
                        clear H1
                        exact absurd ((Option.some.inj H).trans HRT.out) (by decide)
                    · have H1 : (if q175 = 2 then (if t162 = 0 then (if t158 = true then (some (t163 == 0)) else (some false)) else (if t158 = true then (some false) else (some false))) else (if t158 = true then (some false) else (some false))) = some r := by rw [if_neg (show ¬ (some q175).isNone = true by simp)] at H; exact H
                      clear H
                      have H := H1
                      clear H1
                      try simp only [errW_none, errW_some]
                      by_cases c36 : q175 = 2
                      · rw [if_pos c36] at H
                        have c36b0 : (q175 == 2) = true := beq_iff_eq.mpr c36
                        have c36b1 : (q175 != 2) = false := bne_eq_false_iff_eq.mpr c36
                        clear c36
                        by_cases c37 : t162 = 0
                        · rw [if_pos c37] at H
                          have c37b0 : (t162 == 0) = true := beq_iff_eq.mpr c37
                          have c37b1 : (t162 != 0) = false := bne_eq_false_iff_eq.mpr c37
                          clear c37
                          by_cases c38 : t158 = true
                          · subst c38
                            have H1 : (some (t163 == 0)) = some r := by rw [if_pos rfl] at H; exact H
                            clear H
                            have H := H1
                            clear H1
                            obtain rfl := Option.some.inj H
                            go_wp2_with (first | ((with_reducible refine gate_callee (f := 12) rfl ?_); refine goesL_ (some 90) rfl rfl Try.func12 (by kernel_rfl) rfl #[.slice A0 l0.length c0, .int .i64 a1, .int .i64 a2, .bool false] rfl (by (try simp only [List.map_toArray, List.map_cons, List.map_nil]); first | done | rfl | (simp only [List.length_drop, List.length_take]; rfl)) ?_; (with_reducible refine (grommetref01_Read.calls kj8 _ _ l0 a1 a2 false t167 t168 true _ ?side1 ?side2 A21.out).mono ?_); (case side1 => repeat (first | exact (Kd.C_below HR0.out HB.out) | (with_reducible refine Kd.C_alloc ?_ _) | (with_reducible refine Kd.C_drewN ?_ _) | (with_reducible refine Kd.C_drew ?_))); (case side2 => exact HC0.out); rintro e w39 ⟨rfl, hb⟩; refine ⟨_, rfl, ?_⟩; have n0_ := Aside0.mk (below_step (by repeat (first | (with_reducible first | exact HB.out | apply below_alloc | apply pw_below_drewN | apply below_drew1) | exact HB.out)) hb); clear HB; have HB := n0_; clear n0_; (try clear hb); (try clear hb2); (try clear hk); (try clear hi)) | ((with_reducible refine gate_callee (f := 12) rfl ?_); refine goesL_ (some 98) rfl rfl Try.func12 (by kernel_rfl) rfl #[.slice A0 l0.length c0, .int .i64 a1, .int .i64 a2, .bool true] rfl (by (try simp only [List.map_toArray, List.map_cons, List.map_nil]); first | done | rfl | (simp only [List.length_drop, List.length_take]; rfl)) ?_; (with_reducible refine (grommetref01_Read.calls kj8 _ _ l0 a1 a2 true t170 t171 false _ ?side1 ?side2 A22.out).mono ?_); (case side1 => repeat (first | exact (Kd.C_below HR0.out HB.out) | (with_reducible refine Kd.C_alloc ?_ _) | (with_reducible refine Kd.C_drewN ?_ _) | (with_reducible refine Kd.C_drew ?_))); (case side2 => exact HC0.out); rintro e w40 ⟨rfl, hb⟩; refine ⟨_, rfl, ?_⟩; have n0_ := Aside0.mk (below_step (by repeat (first | (with_reducible first | exact HB.out | apply below_alloc | apply pw_below_drewN | apply below_drew1) | exact HB.out)) hb); clear HB; have HB := n0_; clear n0_; (try clear hb); (try clear hb2); (try clear hk); (try clear hi)))
                            go_ret
                            exact ⟨by first | rfl | (simp [errW_none, errW_some] <;> rfl) | (simp [*, errW_none, errW_some] <;> rfl), by repeat (first | (with_reducible first | exact HB.out | apply below_alloc | apply pw_below_drewN | apply below_drew1) | exact HB.out)⟩
                          · replace c38 := Bool.eq_false_iff.mpr c38
                            subst c38
                            have H1 : (some false) = some r := by rw [if_neg (show ¬ (false = true) by decide)] at H; exact H
                            clear H
                            have H := H1
                            clear H1
                            exact absurd ((Option.some.inj H).trans HRT.out) (by decide)
                        · rw [if_neg c37] at H
                          have c37b0 : (t162 == 0) = false := beq_eq_false_iff_ne.mpr c37
                          have c37b1 : (t162 != 0) = true := bne_iff_ne.mpr c37
                          by_cases c41 : t158 = true
                          · subst c41
                            have H1 : (some false) = some r := by rw [if_pos rfl] at H; exact H
                            clear H
                            have H := H1
                            clear H1
                            exact absurd ((Option.some.inj H).trans HRT.out) (by decide)
                          · replace c41 := Bool.eq_false_iff.mpr c41
                            subst c41
                            have H1 : (some false) = some r := by rw [if_neg (show ¬ (false = true) by decide)] at H; exact H
                            clear H
                            have H := H1
                            clear H1
                            exact absurd ((Option.some.inj H).trans HRT.out) (by decide)
                      · rw [if_neg c36] at H
                        have c36b0 : (q175 == 2) = false := beq_eq_false_iff_ne.mpr c36
                        have c36b1 : (q175 != 2) = true := bne_iff_ne.mpr c36
                        by_cases c42 : t158 = true
                        · subst c42
                          have H1 : (some false) = some r := by rw [if_pos rfl] at H; exact H
                          clear H
                          have H := H1
                          clear H1
                          exact absurd ((Option.some.inj H).trans HRT.out) (by decide)
                        · replace c42 := Bool.eq_false_iff.mpr c42
                          subst c42
                          have H1 : (some false) = some r := by rw [if_neg (show ¬ (false = true) by decide)] at H; exact H
                          clear H
                          have H := H1
                          clear H1
                          exact absurd ((Option.some.inj H).trans HRT.out) (by decide)
                · rw [if_neg c25] at H
                  have c25b0 : (t160 == t168) = false := beq_eq_false_iff_ne.mpr c25
                  have c25b1 : (t160 != t168) = true := bne_iff_ne.mpr c25
                  by_cases c43 : t172 = true
                  · subst c43
                    have H1 : (if t164.isNone = true then (if (IntKind.u64.wrap (t162)) = t170 then (if t163 = t171 then (if t158 = true then (some false) else (some false)) else (if t158 = true then (some false) else (some false))) else (if t158 = true then (some false) else (some false))) else (if t158 = true then (some false) else (some false))) = some r := by rw [if_pos rfl] at H; exact H
                    clear H
                    have H := H1
                    clear H1
                    rcases t164 with _ | q176
                    · have H1 : (if (IntKind.u64.wrap (t162)) = t170 then (if t163 = t171 then (if t158 = true then (some false) else (some false)) else (if t158 = true then (some false) else (some false))) else (if t158 = true then (some false) else (some false))) = some r := by rw [if_pos (show (none : Option Int).isNone = true by rfl)] at H; exact H
                      clear H
                      have H := H1
                      clear H1
                      try simp only [errW_none, errW_some]
                      by_cases c44 : (IntKind.u64.wrap (t162)) = t170
                      · rw [if_pos c44] at H
                        have c44b0 : ((IntKind.u64.wrap (t162)) == t170) = true := beq_iff_eq.mpr c44
                        have c44b1 : ((IntKind.u64.wrap (t162)) != t170) = false := bne_eq_false_iff_eq.mpr c44
                        clear c44
                        by_cases c45 : t163 = t171
                        · rw [if_pos c45] at H
                          have c45b0 : (t163 == t171) = true := beq_iff_eq.mpr c45
                          have c45b1 : (t163 != t171) = false := bne_eq_false_iff_eq.mpr c45
                          clear c45
                          by_cases c46 : t158 = true
                          · subst c46
                            have H1 : (some false) = some r := by rw [if_pos rfl] at H; exact H
                            clear H
                            have H := H1
                            clear H1
                            exact absurd ((Option.some.inj H).trans HRT.out) (by decide)
                          · replace c46 := Bool.eq_false_iff.mpr c46
                            subst c46
                            have H1 : (some false) = some r := by rw [if_neg (show ¬ (false = true) by decide)] at H; exact H
                            clear H
                            have H := H1
                            clear H1
                            exact absurd ((Option.some.inj H).trans HRT.out) (by decide)
                        · rw [if_neg c45] at H
                          have c45b0 : (t163 == t171) = false := beq_eq_false_iff_ne.mpr c45
                          have c45b1 : (t163 != t171) = true := bne_iff_ne.mpr c45
                          by_cases c47 : t158 = true
                          · subst c47
                            have H1 : (some false) = some r := by rw [if_pos rfl] at H; exact H
                            clear H
                            have H := H1
                            clear H1
                            exact absurd ((Option.some.inj H).trans HRT.out) (by decide)
                          · replace c47 := Bool.eq_false_iff.mpr c47
                            subst c47
                            have H1 : (some false) = some r := by rw [if_neg (show ¬ (false = true) by decide)] at H; exact H
                            clear H
                            have H := H1
                            clear H1
                            exact absurd ((Option.some.inj H).trans HRT.out) (by decide)
                      · rw [if_neg c44] at H
                        have c44b0 : ((IntKind.u64.wrap (t162)) == t170) = false := beq_eq_false_iff_ne.mpr c44
                        have c44b1 : ((IntKind.u64.wrap (t162)) != t170) = true := bne_iff_ne.mpr c44
                        by_cases c48 : t158 = true
                        · subst c48
                          have H1 : (some false) = some r := by rw [if_pos rfl] at H; exact H
                          clear H
                          have H := H1
                          clear H1
                          exact absurd ((Option.some.inj H).trans HRT.out) (by decide)
                        · replace c48 := Bool.eq_false_iff.mpr c48
                          subst c48
                          have H1 : (some false) = some r := by rw [if_neg (show ¬ (false = true) by decide)] at H; exact H
                          clear H
                          have H := H1
                          clear H1
                          exact absurd ((Option.some.inj H).trans HRT.out) (by decide)
                    · have H1 : (if t158 = true then (some false) else (some false)) = some r := by rw [if_neg (show ¬ (some q176).isNone = true by simp)] at H; exact H
                      clear H
                      have H := H1
                      clear H1
                      try simp only [errW_none, errW_some]
                      by_cases c49 : t158 = true
                      · subst c49
                        have H1 : (some false) = some r := by rw [if_pos rfl] at H; exact H
                        clear H
                        have H := H1
                        clear H1
                        exact absurd ((Option.some.inj H).trans HRT.out) (by decide)
                      · replace c49 := Bool.eq_false_iff.mpr c49
                        subst c49
                        have H1 : (some false) = some r := by rw [if_neg (show ¬ (false = true) by decide)] at H; exact H
                        clear H
                        have H := H1
                        clear H1
                        exact absurd ((Option.some.inj H).trans HRT.out) (by decide)
                  · replace c43 := Bool.eq_false_iff.mpr c43
                    subst c43
                    have H1 : (if t164.isNone = true then (if t158 = true then (some false) else (some false)) else (if (t164.getD 0) = 2 then (if t162 = 0 then (if t158 = true then (some false) else (some false)) else (if t158 = true then (some false) else (some false))) else (if t158 = true then (some false) else (some false)))) = some r := by rw [if_neg (show ¬ (false = true) by decide)] at H; exact H
                    clear H
                    have H := H1
                    clear H1
                    rcases t164 with _ | q177
                    · have H1 : (if t158 = true then (some false) else (some false)) = some r := by rw [if_pos (show (none : Option Int).isNone = true by rfl)] at H; exact H
                      clear H
                      have H := H1
                      clear H1
                      try simp only [errW_none, errW_some]
                      by_cases c50 : t158 = true
                      · subst c50
                        have H1 : (some false) = some r := by rw [if_pos rfl] at H; exact H
                        clear H
                        have H := H1
                        clear H1
                        exact absurd ((Option.some.inj H).trans HRT.out) (by decide)
                      · replace c50 := Bool.eq_false_iff.mpr c50
                        subst c50
                        have H1 : (some false) = some r := by rw [if_neg (show ¬ (false = true) by decide)] at H; exact H
                        clear H
                        have H := H1
                        clear H1
                        exact absurd ((Option.some.inj H).trans HRT.out) (by decide)
                    · have H1 : (if q177 = 2 then (if t162 = 0 then (if t158 = true then (some false) else (some false)) else (if t158 = true then (some false) else (some false))) else (if t158 = true then (some false) else (some false))) = some r := by rw [if_neg (show ¬ (some q177).isNone = true by simp)] at H; exact H
                      clear H
                      have H := H1
                      clear H1
                      try simp only [errW_none, errW_some]
                      by_cases c51 : q177 = 2
                      · rw [if_pos c51] at H
                        have c51b0 : (q177 == 2) = true := beq_iff_eq.mpr c51
                        have c51b1 : (q177 != 2) = false := bne_eq_false_iff_eq.mpr c51
                        clear c51
                        by_cases c52 : t162 = 0
                        · rw [if_pos c52] at H
                          have c52b0 : (t162 == 0) = true := beq_iff_eq.mpr c52
                          have c52b1 : (t162 != 0) = false := bne_eq_false_iff_eq.mpr c52
                          clear c52
                          by_cases c53 : t158 = true
                          · subst c53
                            have H1 : (some false) = some r := by rw [if_pos rfl] at H; exact H
                            clear H
                            have H := H1
                            clear H1
                            exact absurd ((Option.some.inj H).trans HRT.out) (by decide)
                          · replace c53 := Bool.eq_false_iff.mpr c53
                            subst c53
                            have H1 : (some false) = some r := by rw [if_neg (show ¬ (false = true) by decide)] at H; exact H
                            clear H
                            have H := H1
                            clear H1
                            exact absurd ((Option.some.inj H).trans HRT.out) (by decide)
                        · rw [if_neg c52] at H
                          have c52b0 : (t162 == 0) = false := beq_eq_false_iff_ne.mpr c52
                          have c52b1 : (t162 != 0) = true := bne_iff_ne.mpr c52
                          by_cases c54 : t158 = true
                          · subst c54
                            have H1 : (some false) = some r := by rw [if_pos rfl] at H; exact H
                            clear H
                            have H := H1
                            clear H1
                            exact absurd ((Option.some.inj H).trans HRT.out) (by decide)
                          · replace c54 := Bool.eq_false_iff.mpr c54
                            subst c54
                            have H1 : (some false) = some r := by rw [if_neg (show ¬ (false = true) by decide)] at H; exact H
                            clear H
                            have H := H1
                            clear H1
                            exact absurd ((Option.some.inj H).trans HRT.out) (by decide)
                      · rw [if_neg c51] at H
                        have c51b0 : (q177 == 2) = false := beq_eq_false_iff_ne.mpr c51
                        have c51b1 : (q177 != 2) = true := bne_iff_ne.mpr c51
                        by_cases c55 : t158 = true
                        · subst c55
                          have H1 : (some false) = some r := by rw [if_pos rfl] at H; exact H
                          clear H
                          have H := H1
                          clear H1
                          exact absurd ((Option.some.inj H).trans HRT.out) (by decide)
                        · replace c55 := Bool.eq_false_iff.mpr c55
                          subst c55
                          have H1 : (some false) = some r := by rw [if_neg (show ¬ (false = true) by decide)] at H; exact H
                          clear H
                          have H := H1
                          clear H1
                          exact absurd ((Option.some.inj H).trans HRT.out) (by decide)
              · rw [if_neg c24] at H
                have c24b0 : (t159 == t167) = false := beq_eq_false_iff_ne.mpr c24
                have c24b1 : (t159 != t167) = true := bne_iff_ne.mpr c24
                by_cases c56 : t172 = true
                · subst c56
                  have H1 : (if t164.isNone = true then (if (IntKind.u64.wrap (t162)) = t170 then (if t163 = t171 then (if t158 = true then (some false) else (some false)) else (if t158 = true then (some false) else (some false))) else (if t158 = true then (some false) else (some false))) else (if t158 = true then (some false) else (some false))) = some r := by rw [if_pos rfl] at H; exact H
                  clear H
                  have H := H1
                  clear H1
                  rcases t164 with _ | q178
                  · have H1 : (if (IntKind.u64.wrap (t162)) = t170 then (if t163 = t171 then (if t158 = true then (some false) else (some false)) else (if t158 = true then (some false) else (some false))) else (if t158 = true then (some false) else (some false))) = some r := by rw [if_pos (show (none : Option Int).isNone = true by rfl)] at H; exact H
                    clear H
                    have H := H1
                    clear H1
                    try simp only [errW_none, errW_some]
                    by_cases c57 : (IntKind.u64.wrap (t162)) = t170
                    · rw [if_pos c57] at H
                      have c57b0 : ((IntKind.u64.wrap (t162)) == t170) = true := beq_iff_eq.mpr c57
                      have c57b1 : ((IntKind.u64.wrap (t162)) != t170) = false := bne_eq_false_iff_eq.mpr c57
                      clear c57
                      by_cases c58 : t163 = t171
                      · rw [if_pos c58] at H
                        have c58b0 : (t163 == t171) = true := beq_iff_eq.mpr c58
                        have c58b1 : (t163 != t171) = false := bne_eq_false_iff_eq.mpr c58
                        clear c58
                        by_cases c59 : t158 = true
                        · subst c59
                          have H1 : (some false) = some r := by rw [if_pos rfl] at H; exact H
                          clear H
                          have H := H1
                          clear H1
                          exact absurd ((Option.some.inj H).trans HRT.out) (by decide)
                        · replace c59 := Bool.eq_false_iff.mpr c59
                          subst c59
                          have H1 : (some false) = some r := by rw [if_neg (show ¬ (false = true) by decide)] at H; exact H
                          clear H
                          have H := H1
                          clear H1
                          exact absurd ((Option.some.inj H).trans HRT.out) (by decide)
                      · rw [if_neg c58] at H
                        have c58b0 : (t163 == t171) = false := beq_eq_false_iff_ne.mpr c58
                        have c58b1 : (t163 != t171) = true := bne_iff_ne.mpr c58
                        by_cases c60 : t158 = true
                        · subst c60
                          have H1 : (some false) = some r := by rw [if_pos rfl] at H; exact H
                          clear H
                          have H := H1
                          clear H1
                          exact absurd ((Option.some.inj H).trans HRT.out) (by decide)
                        · replace c60 := Bool.eq_false_iff.mpr c60
                          subst c60
                          have H1 : (some false) = some r := by rw [if_neg (show ¬ (false = true) by decide)] at H; exact H
                          clear H
                          have H := H1
                          clear H1
                          exact absurd ((Option.some.inj H).trans HRT.out) (by decide)
                    · rw [if_neg c57] at H
                      have c57b0 : ((IntKind.u64.wrap (t162)) == t170) = false := beq_eq_false_iff_ne.mpr c57
                      have c57b1 : ((IntKind.u64.wrap (t162)) != t170) = true := bne_iff_ne.mpr c57
                      by_cases c61 : t158 = true
                      · subst c61
                        have H1 : (some false) = some r := by rw [if_pos rfl] at H; exact H
                        clear H
                        have H := H1
                        clear H1
                        exact absurd ((Option.some.inj H).trans HRT.out) (by decide)
                      · replace c61 := Bool.eq_false_iff.mpr c61
                        subst c61
                        have H1 : (some false) = some r := by rw [if_neg (show ¬ (false = true) by decide)] at H; exact H
                        clear H
                        have H := H1
                        clear H1
                        exact absurd ((Option.some.inj H).trans HRT.out) (by decide)
                  · have H1 : (if t158 = true then (some false) else (some false)) = some r := by rw [if_neg (show ¬ (some q178).isNone = true by simp)] at H; exact H
                    clear H
                    have H := H1
                    clear H1
                    try simp only [errW_none, errW_some]
                    by_cases c62 : t158 = true
                    · subst c62
                      have H1 : (some false) = some r := by rw [if_pos rfl] at H; exact H
                      clear H
                      have H := H1
                      clear H1
                      exact absurd ((Option.some.inj H).trans HRT.out) (by decide)
                    · replace c62 := Bool.eq_false_iff.mpr c62
                      subst c62
                      have H1 : (some false) = some r := by rw [if_neg (show ¬ (false = true) by decide)] at H; exact H
                      clear H
                      have H := H1
                      clear H1
                      exact absurd ((Option.some.inj H).trans HRT.out) (by decide)
                · replace c56 := Bool.eq_false_iff.mpr c56
                  subst c56
                  have H1 : (if t164.isNone = true then (if t158 = true then (some false) else (some false)) else (if (t164.getD 0) = 2 then (if t162 = 0 then (if t158 = true then (some false) else (some false)) else (if t158 = true then (some false) else (some false))) else (if t158 = true then (some false) else (some false)))) = some r := by rw [if_neg (show ¬ (false = true) by decide)] at H; exact H
                  clear H
                  have H := H1
                  clear H1
                  rcases t164 with _ | q179
                  · have H1 : (if t158 = true then (some false) else (some false)) = some r := by rw [if_pos (show (none : Option Int).isNone = true by rfl)] at H; exact H
                    clear H
                    have H := H1
                    clear H1
                    try simp only [errW_none, errW_some]
                    by_cases c63 : t158 = true
                    · subst c63
                      have H1 : (some false) = some r := by rw [if_pos rfl] at H; exact H
                      clear H
                      have H := H1
                      clear H1
                      exact absurd ((Option.some.inj H).trans HRT.out) (by decide)
                    · replace c63 := Bool.eq_false_iff.mpr c63
                      subst c63
                      have H1 : (some false) = some r := by rw [if_neg (show ¬ (false = true) by decide)] at H; exact H
                      clear H
                      have H := H1
                      clear H1
                      exact absurd ((Option.some.inj H).trans HRT.out) (by decide)
                  · have H1 : (if q179 = 2 then (if t162 = 0 then (if t158 = true then (some false) else (some false)) else (if t158 = true then (some false) else (some false))) else (if t158 = true then (some false) else (some false))) = some r := by rw [if_neg (show ¬ (some q179).isNone = true by simp)] at H; exact H
                    clear H
                    have H := H1
                    clear H1
                    try simp only [errW_none, errW_some]
                    by_cases c64 : q179 = 2
                    · rw [if_pos c64] at H
                      have c64b0 : (q179 == 2) = true := beq_iff_eq.mpr c64
                      have c64b1 : (q179 != 2) = false := bne_eq_false_iff_eq.mpr c64
                      clear c64
                      by_cases c65 : t162 = 0
                      · rw [if_pos c65] at H
                        have c65b0 : (t162 == 0) = true := beq_iff_eq.mpr c65
                        have c65b1 : (t162 != 0) = false := bne_eq_false_iff_eq.mpr c65
                        clear c65
                        by_cases c66 : t158 = true
                        · subst c66
                          have H1 : (some false) = some r := by rw [if_pos rfl] at H; exact H
                          clear H
                          have H := H1
                          clear H1
                          exact absurd ((Option.some.inj H).trans HRT.out) (by decide)
                        · replace c66 := Bool.eq_false_iff.mpr c66
                          subst c66
                          have H1 : (some false) = some r := by rw [if_neg (show ¬ (false = true) by decide)] at H; exact H
                          clear H
                          have H := H1
                          clear H1
                          exact absurd ((Option.some.inj H).trans HRT.out) (by decide)
                      · rw [if_neg c65] at H
                        have c65b0 : (t162 == 0) = false := beq_eq_false_iff_ne.mpr c65
                        have c65b1 : (t162 != 0) = true := bne_iff_ne.mpr c65
                        by_cases c67 : t158 = true
                        · subst c67
                          have H1 : (some false) = some r := by rw [if_pos rfl] at H; exact H
                          clear H
                          have H := H1
                          clear H1
                          exact absurd ((Option.some.inj H).trans HRT.out) (by decide)
                        · replace c67 := Bool.eq_false_iff.mpr c67
                          subst c67
                          have H1 : (some false) = some r := by rw [if_neg (show ¬ (false = true) by decide)] at H; exact H
                          clear H
                          have H := H1
                          clear H1
                          exact absurd ((Option.some.inj H).trans HRT.out) (by decide)
                    · rw [if_neg c64] at H
                      have c64b0 : (q179 == 2) = false := beq_eq_false_iff_ne.mpr c64
                      have c64b1 : (q179 != 2) = true := bne_iff_ne.mpr c64
                      by_cases c68 : t158 = true
                      · subst c68
                        have H1 : (some false) = some r := by rw [if_pos rfl] at H; exact H
                        clear H
                        have H := H1
                        clear H1
                        exact absurd ((Option.some.inj H).trans HRT.out) (by decide)
                      · replace c68 := Bool.eq_false_iff.mpr c68
                        subst c68
                        have H1 : (some false) = some r := by rw [if_neg (show ¬ (false = true) by decide)] at H; exact H
                        clear H
                        have H := H1
                        clear H1
                        exact absurd ((Option.some.inj H).trans HRT.out) (by decide)
            · have H1 : (if t172 = true then (if t164.isNone = true then (if (IntKind.u64.wrap (t162)) = t170 then (if t163 = t171 then (if t158 = true then (some false) else (some false)) else (if t158 = true then (some false) else (some false))) else (if t158 = true then (some false) else (some false))) else (if t158 = true then (some false) else (some false))) else (if t164.isNone = true then (if t158 = true then (some false) else (some false)) else (if (t164.getD 0) = 2 then (if t162 = 0 then (if t158 = true then (some false) else (some false)) else (if t158 = true then (some false) else (some false))) else (if t158 = true then (some false) else (some false))))) = some r := by rw [if_neg (show ¬ (some q173).isNone = true by simp)] at H; exact H
              clear H
              have H := H1
              clear H1
              try simp only [errW_none, errW_some]
              by_cases c69 : t172 = true
              · subst c69
                have H1 : (if t164.isNone = true then (if (IntKind.u64.wrap (t162)) = t170 then (if t163 = t171 then (if t158 = true then (some false) else (some false)) else (if t158 = true then (some false) else (some false))) else (if t158 = true then (some false) else (some false))) else (if t158 = true then (some false) else (some false))) = some r := by rw [if_pos rfl] at H; exact H
                clear H
                have H := H1
                clear H1
                rcases t164 with _ | q180
                · have H1 : (if (IntKind.u64.wrap (t162)) = t170 then (if t163 = t171 then (if t158 = true then (some false) else (some false)) else (if t158 = true then (some false) else (some false))) else (if t158 = true then (some false) else (some false))) = some r := by rw [if_pos (show (none : Option Int).isNone = true by rfl)] at H; exact H
                  clear H
                  have H := H1
                  clear H1
                  try simp only [errW_none, errW_some]
                  by_cases c70 : (IntKind.u64.wrap (t162)) = t170
                  · rw [if_pos c70] at H
                    have c70b0 : ((IntKind.u64.wrap (t162)) == t170) = true := beq_iff_eq.mpr c70
                    have c70b1 : ((IntKind.u64.wrap (t162)) != t170) = false := bne_eq_false_iff_eq.mpr c70
                    clear c70
                    by_cases c71 : t163 = t171
                    · rw [if_pos c71] at H
                      have c71b0 : (t163 == t171) = true := beq_iff_eq.mpr c71
                      have c71b1 : (t163 != t171) = false := bne_eq_false_iff_eq.mpr c71
                      clear c71
                      by_cases c72 : t158 = true
                      · subst c72
                        have H1 : (some false) = some r := by rw [if_pos rfl] at H; exact H
                        clear H
                        have H := H1
                        clear H1
                        exact absurd ((Option.some.inj H).trans HRT.out) (by decide)
                      · replace c72 := Bool.eq_false_iff.mpr c72
                        subst c72
                        have H1 : (some false) = some r := by rw [if_neg (show ¬ (false = true) by decide)] at H; exact H
                        clear H
                        have H := H1
                        clear H1
                        exact absurd ((Option.some.inj H).trans HRT.out) (by decide)
                    · rw [if_neg c71] at H
                      have c71b0 : (t163 == t171) = false := beq_eq_false_iff_ne.mpr c71
                      have c71b1 : (t163 != t171) = true := bne_iff_ne.mpr c71
                      by_cases c73 : t158 = true
                      · subst c73
                        have H1 : (some false) = some r := by rw [if_pos rfl] at H; exact H
                        clear H
                        have H := H1
                        clear H1
                        exact absurd ((Option.some.inj H).trans HRT.out) (by decide)
                      · replace c73 := Bool.eq_false_iff.mpr c73
                        subst c73
                        have H1 : (some false) = some r := by rw [if_neg (show ¬ (false = true) by decide)] at H; exact H
                        clear H
                        have H := H1
                        clear H1
                        exact absurd ((Option.some.inj H).trans HRT.out) (by decide)
                  · rw [if_neg c70] at H
                    have c70b0 : ((IntKind.u64.wrap (t162)) == t170) = false := beq_eq_false_iff_ne.mpr c70
                    have c70b1 : ((IntKind.u64.wrap (t162)) != t170) = true := bne_iff_ne.mpr c70
                    by_cases c74 : t158 = true
                    · subst c74
                      have H1 : (some false) = some r := by rw [if_pos rfl] at H; exact H
                      clear H
                      have H := H1
                      clear H1
                      exact absurd ((Option.some.inj H).trans HRT.out) (by decide)
                    · replace c74 := Bool.eq_false_iff.mpr c74
                      subst c74
                      have H1 : (some false) = some r := by rw [if_neg (show ¬ (false = true) by decide)] at H; exact H
                      clear H
                      have H := H1
                      clear H1
                      exact absurd ((Option.some.inj H).trans HRT.out) (by decide)
                · have H1 : (if t158 = true then (some false) else (some false)) = some r := by rw [if_neg (show ¬ (some q180).isNone = true by simp)] at H; exact H
                  clear H
                  have H := H1
                  clear H1
                  try simp only [errW_none, errW_some]
                  by_cases c75 : t158 = true
                  · subst c75
                    have H1 : (some false) = some r := by rw [if_pos rfl] at H; exact H
                    clear H
                    have H := H1
                    clear H1
                    exact absurd ((Option.some.inj H).trans HRT.out) (by decide)
                  · replace c75 := Bool.eq_false_iff.mpr c75
                    subst c75
                    have H1 : (some false) = some r := by rw [if_neg (show ¬ (false = true) by decide)] at H; exact H
                    clear H
                    have H := H1
                    clear H1
                    exact absurd ((Option.some.inj H).trans HRT.out) (by decide)
              · replace c69 := Bool.eq_false_iff.mpr c69
                subst c69
                have H1 : (if t164.isNone = true then (if t158 = true then (some false) else (some false)) else (if (t164.getD 0) = 2 then (if t162 = 0 then (if t158 = true then (some false) else (some false)) else (if t158 = true then (some false) else (some false))) else (if t158 = true then (some false) else (some false)))) = some r := by rw [if_neg (show ¬ (false = true) by decide)] at H; exact H
                clear H
                have H := H1
                clear H1
                rcases t164 with _ | q181
                · have H1 : (if t158 = true then (some false) else (some false)) = some r := by rw [if_pos (show (none : Option Int).isNone = true by rfl)] at H; exact H
                  clear H
                  have H := H1
                  clear H1
                  try simp only [errW_none, errW_some]
                  by_cases c76 : t158 = true
                  · subst c76
                    have H1 : (some false) = some r := by rw [if_pos rfl] at H; exact H
                    clear H
                    have H := H1
                    clear H1
                    exact absurd ((Option.some.inj H).trans HRT.out) (by decide)
                  · replace c76 := Bool.eq_false_iff.mpr c76
                    subst c76
                    have H1 : (some false) = some r := by rw [if_neg (show ¬ (false = true) by decide)] at H; exact H
                    clear H
                    have H := H1
                    clear H1
                    exact absurd ((Option.some.inj H).trans HRT.out) (by decide)
                · have H1 : (if q181 = 2 then (if t162 = 0 then (if t158 = true then (some false) else (some false)) else (if t158 = true then (some false) else (some false))) else (if t158 = true then (some false) else (some false))) = some r := by rw [if_neg (show ¬ (some q181).isNone = true by simp)] at H; exact H
                  clear H
                  have H := H1
                  clear H1
                  try simp only [errW_none, errW_some]
                  by_cases c77 : q181 = 2
                  · rw [if_pos c77] at H
                    have c77b0 : (q181 == 2) = true := beq_iff_eq.mpr c77
                    have c77b1 : (q181 != 2) = false := bne_eq_false_iff_eq.mpr c77
                    clear c77
                    by_cases c78 : t162 = 0
                    · rw [if_pos c78] at H
                      have c78b0 : (t162 == 0) = true := beq_iff_eq.mpr c78
                      have c78b1 : (t162 != 0) = false := bne_eq_false_iff_eq.mpr c78
                      clear c78
                      by_cases c79 : t158 = true
                      · subst c79
                        have H1 : (some false) = some r := by rw [if_pos rfl] at H; exact H
                        clear H
                        have H := H1
                        clear H1
                        exact absurd ((Option.some.inj H).trans HRT.out) (by decide)
                      · replace c79 := Bool.eq_false_iff.mpr c79
                        subst c79
                        have H1 : (some false) = some r := by rw [if_neg (show ¬ (false = true) by decide)] at H; exact H
                        clear H
                        have H := H1
                        clear H1
                        exact absurd ((Option.some.inj H).trans HRT.out) (by decide)
                    · rw [if_neg c78] at H
                      have c78b0 : (t162 == 0) = false := beq_eq_false_iff_ne.mpr c78
                      have c78b1 : (t162 != 0) = true := bne_iff_ne.mpr c78
                      by_cases c80 : t158 = true
                      · subst c80
                        have H1 : (some false) = some r := by rw [if_pos rfl] at H; exact H
                        clear H
                        have H := H1
                        clear H1
                        exact absurd ((Option.some.inj H).trans HRT.out) (by decide)
                      · replace c80 := Bool.eq_false_iff.mpr c80
                        subst c80
                        have H1 : (some false) = some r := by rw [if_neg (show ¬ (false = true) by decide)] at H; exact H
                        clear H
                        have H := H1
                        clear H1
                        exact absurd ((Option.some.inj H).trans HRT.out) (by decide)
                  · rw [if_neg c77] at H
                    have c77b0 : (q181 == 2) = false := beq_eq_false_iff_ne.mpr c77
                    have c77b1 : (q181 != 2) = true := bne_iff_ne.mpr c77
                    by_cases c81 : t158 = true
                    · subst c81
                      have H1 : (some false) = some r := by rw [if_pos rfl] at H; exact H
                      clear H
                      have H := H1
                      clear H1
                      exact absurd ((Option.some.inj H).trans HRT.out) (by decide)
                    · replace c81 := Bool.eq_false_iff.mpr c81
                      subst c81
                      have H1 : (some false) = some r := by rw [if_neg (show ¬ (false = true) by decide)] at H; exact H
                      clear H
                      have H := H1
                      clear H1
                      exact absurd ((Option.some.inj H).trans HRT.out) (by decide)
          · replace c23 := Bool.eq_false_iff.mpr c23
            subst c23
            have H1 : (if t161.isNone = true then (if t172 = true then (if t164.isNone = true then (if (IntKind.u64.wrap (t162)) = t170 then (if t163 = t171 then (if t158 = true then (some false) else (some false)) else (if t158 = true then (some false) else (some false))) else (if t158 = true then (some false) else (some false))) else (if t158 = true then (some false) else (some false))) else (if t164.isNone = true then (if t158 = true then (some false) else (some false)) else (if (t164.getD 0) = 2 then (if t162 = 0 then (if t158 = true then (some false) else (some false)) else (if t158 = true then (some false) else (some false))) else (if t158 = true then (some false) else (some false))))) else (if (t161.getD 0) = 2 then (if t159 = 0 then (if t172 = true then (if t164.isNone = true then (if (IntKind.u64.wrap (t162)) = t170 then (if t163 = t171 then (if t158 = true then (if t160 = 0 then (some true) else (some false)) else (some false)) else (if t158 = true then (if t160 = 0 then (some false) else (some false)) else (some false))) else (if t158 = true then (if t160 = 0 then (some false) else (some false)) else (some false))) else (if t158 = true then (if t160 = 0 then (some false) else (some false)) else (some false))) else (if t164.isNone = true then (if t158 = true then (if t160 = 0 then (some false) else (some false)) else (some false)) else (if (t164.getD 0) = 2 then (if t162 = 0 then (if t158 = true then (if t160 = 0 then (some (t163 == 0)) else (some false)) else (some false)) else (if t158 = true then (if t160 = 0 then (some false) else (some false)) else (some false))) else (if t158 = true then (if t160 = 0 then (some false) else (some false)) else (some false))))) else (if t172 = true then (if t164.isNone = true then (if (IntKind.u64.wrap (t162)) = t170 then (if t163 = t171 then (if t158 = true then (some false) else (some false)) else (if t158 = true then (some false) else (some false))) else (if t158 = true then (some false) else (some false))) else (if t158 = true then (some false) else (some false))) else (if t164.isNone = true then (if t158 = true then (some false) else (some false)) else (if (t164.getD 0) = 2 then (if t162 = 0 then (if t158 = true then (some false) else (some false)) else (if t158 = true then (some false) else (some false))) else (if t158 = true then (some false) else (some false)))))) else (if t172 = true then (if t164.isNone = true then (if (IntKind.u64.wrap (t162)) = t170 then (if t163 = t171 then (if t158 = true then (some false) else (some false)) else (if t158 = true then (some false) else (some false))) else (if t158 = true then (some false) else (some false))) else (if t158 = true then (some false) else (some false))) else (if t164.isNone = true then (if t158 = true then (some false) else (some false)) else (if (t164.getD 0) = 2 then (if t162 = 0 then (if t158 = true then (some false) else (some false)) else (if t158 = true then (some false) else (some false))) else (if t158 = true then (some false) else (some false))))))) = some r := by rw [if_neg (show ¬ (false = true) by decide)] at H; exact H
            clear H
            have H := H1
            clear H1
            rcases t161 with _ | q182
            · have H1 : (if t172 = true then (if t164.isNone = true then (if (IntKind.u64.wrap (t162)) = t170 then (if t163 = t171 then (if t158 = true then (some false) else (some false)) else (if t158 = true then (some false) else (some false))) else (if t158 = true then (some false) else (some false))) else (if t158 = true then (some false) else (some false))) else (if t164.isNone = true then (if t158 = true then (some false) else (some false)) else (if (t164.getD 0) = 2 then (if t162 = 0 then (if t158 = true then (some false) else (some false)) else (if t158 = true then (some false) else (some false))) else (if t158 = true then (some false) else (some false))))) = some r := by rw [if_pos (show (none : Option Int).isNone = true by rfl)] at H; exact H
              clear H
              have H := H1
              clear H1
              try simp only [errW_none, errW_some]
              by_cases c82 : t172 = true
              · subst c82
                have H1 : (if t164.isNone = true then (if (IntKind.u64.wrap (t162)) = t170 then (if t163 = t171 then (if t158 = true then (some false) else (some false)) else (if t158 = true then (some false) else (some false))) else (if t158 = true then (some false) else (some false))) else (if t158 = true then (some false) else (some false))) = some r := by rw [if_pos rfl] at H; exact H
                clear H
                have H := H1
                clear H1
                rcases t164 with _ | q183
                · have H1 : (if (IntKind.u64.wrap (t162)) = t170 then (if t163 = t171 then (if t158 = true then (some false) else (some false)) else (if t158 = true then (some false) else (some false))) else (if t158 = true then (some false) else (some false))) = some r := by rw [if_pos (show (none : Option Int).isNone = true by rfl)] at H; exact H
                  clear H
                  have H := H1
                  clear H1
                  try simp only [errW_none, errW_some]
                  by_cases c83 : (IntKind.u64.wrap (t162)) = t170
                  · rw [if_pos c83] at H
                    have c83b0 : ((IntKind.u64.wrap (t162)) == t170) = true := beq_iff_eq.mpr c83
                    have c83b1 : ((IntKind.u64.wrap (t162)) != t170) = false := bne_eq_false_iff_eq.mpr c83
                    clear c83
                    by_cases c84 : t163 = t171
                    · rw [if_pos c84] at H
                      have c84b0 : (t163 == t171) = true := beq_iff_eq.mpr c84
                      have c84b1 : (t163 != t171) = false := bne_eq_false_iff_eq.mpr c84
                      clear c84
                      by_cases c85 : t158 = true
                      · subst c85
                        have H1 : (some false) = some r := by rw [if_pos rfl] at H; exact H
                        clear H
                        have H := H1
                        clear H1
                        exact absurd ((Option.some.inj H).trans HRT.out) (by decide)
                      · replace c85 := Bool.eq_false_iff.mpr c85
                        subst c85
                        have H1 : (some false) = some r := by rw [if_neg (show ¬ (false = true) by decide)] at H; exact H
                        clear H
                        have H := H1
                        clear H1
                        exact absurd ((Option.some.inj H).trans HRT.out) (by decide)
                    · rw [if_neg c84] at H
                      have c84b0 : (t163 == t171) = false := beq_eq_false_iff_ne.mpr c84
                      have c84b1 : (t163 != t171) = true := bne_iff_ne.mpr c84
                      by_cases c86 : t158 = true
                      · subst c86
                        have H1 : (some false) = some r := by rw [if_pos rfl] at H; exact H
                        clear H
                        have H := H1
                        clear H1
                        exact absurd ((Option.some.inj H).trans HRT.out) (by decide)
                      · replace c86 := Bool.eq_false_iff.mpr c86
                        subst c86
                        have H1 : (some false) = some r := by rw [if_neg (show ¬ (false = true) by decide)] at H; exact H
                        clear H
                        have H := H1
                        clear H1
                        exact absurd ((Option.some.inj H).trans HRT.out) (by decide)
                  · rw [if_neg c83] at H
                    have c83b0 : ((IntKind.u64.wrap (t162)) == t170) = false := beq_eq_false_iff_ne.mpr c83
                    have c83b1 : ((IntKind.u64.wrap (t162)) != t170) = true := bne_iff_ne.mpr c83
                    by_cases c87 : t158 = true
                    · subst c87
                      have H1 : (some false) = some r := by rw [if_pos rfl] at H; exact H
                      clear H
                      have H := H1
                      clear H1
                      exact absurd ((Option.some.inj H).trans HRT.out) (by decide)
                    · replace c87 := Bool.eq_false_iff.mpr c87
                      subst c87
                      have H1 : (some false) = some r := by rw [if_neg (show ¬ (false = true) by decide)] at H; exact H
                      clear H
                      have H := H1
                      clear H1
                      exact absurd ((Option.some.inj H).trans HRT.out) (by decide)
                · have H1 : (if t158 = true then (some false) else (some false)) = some r := by rw [if_neg (show ¬ (some q183).isNone = true by simp)] at H; exact H
                  clear H
                  have H := H1
                  clear H1
                  try simp only [errW_none, errW_some]
                  by_cases c88 : t158 = true
                  · subst c88
                    have H1 : (some false) = some r := by rw [if_pos rfl] at H; exact H
                    clear H
                    have H := H1
                    clear H1
                    exact absurd ((Option.some.inj H).trans HRT.out) (by decide)
                  · replace c88 := Bool.eq_false_iff.mpr c88
                    subst c88
                    have H1 : (some false) = some r := by rw [if_neg (show ¬ (false = true) by decide)] at H; exact H
                    clear H
                    have H := H1
                    clear H1
                    exact absurd ((Option.some.inj H).trans HRT.out) (by decide)
              · replace c82 := Bool.eq_false_iff.mpr c82
                subst c82
                have H1 : (if t164.isNone = true then (if t158 = true then (some false) else (some false)) else (if (t164.getD 0) = 2 then (if t162 = 0 then (if t158 = true then (some false) else (some false)) else (if t158 = true then (some false) else (some false))) else (if t158 = true then (some false) else (some false)))) = some r := by rw [if_neg (show ¬ (false = true) by decide)] at H; exact H
                clear H
                have H := H1
                clear H1
                rcases t164 with _ | q184
                · have H1 : (if t158 = true then (some false) else (some false)) = some r := by rw [if_pos (show (none : Option Int).isNone = true by rfl)] at H; exact H
                  clear H
                  have H := H1
                  clear H1
                  try simp only [errW_none, errW_some]
                  by_cases c89 : t158 = true
                  · subst c89
                    have H1 : (some false) = some r := by rw [if_pos rfl] at H; exact H
                    clear H
                    have H := H1
                    clear H1
                    exact absurd ((Option.some.inj H).trans HRT.out) (by decide)
                  · replace c89 := Bool.eq_false_iff.mpr c89
                    subst c89
                    have H1 : (some false) = some r := by rw [if_neg (show ¬ (false = true) by decide)] at H; exact H
                    clear H
                    have H := H1
                    clear H1
                    exact absurd ((Option.some.inj H).trans HRT.out) (by decide)
                · have H1 : (if q184 = 2 then (if t162 = 0 then (if t158 = true then (some false) else (some false)) else (if t158 = true then (some false) else (some false))) else (if t158 = true then (some false) else (some false))) = some r := by rw [if_neg (show ¬ (some q184).isNone = true by simp)] at H; exact H
                  clear H
                  have H := H1
                  clear H1
                  try simp only [errW_none, errW_some]
                  by_cases c90 : q184 = 2
                  · rw [if_pos c90] at H
                    have c90b0 : (q184 == 2) = true := beq_iff_eq.mpr c90
                    have c90b1 : (q184 != 2) = false := bne_eq_false_iff_eq.mpr c90
                    clear c90
                    by_cases c91 : t162 = 0
                    · rw [if_pos c91] at H
                      have c91b0 : (t162 == 0) = true := beq_iff_eq.mpr c91
                      have c91b1 : (t162 != 0) = false := bne_eq_false_iff_eq.mpr c91
                      clear c91
                      by_cases c92 : t158 = true
                      · subst c92
                        have H1 : (some false) = some r := by rw [if_pos rfl] at H; exact H
                        clear H
                        have H := H1
                        clear H1
                        exact absurd ((Option.some.inj H).trans HRT.out) (by decide)
                      · replace c92 := Bool.eq_false_iff.mpr c92
                        subst c92
                        have H1 : (some false) = some r := by rw [if_neg (show ¬ (false = true) by decide)] at H; exact H
                        clear H
                        have H := H1
                        clear H1
                        exact absurd ((Option.some.inj H).trans HRT.out) (by decide)
                    · rw [if_neg c91] at H
                      have c91b0 : (t162 == 0) = false := beq_eq_false_iff_ne.mpr c91
                      have c91b1 : (t162 != 0) = true := bne_iff_ne.mpr c91
                      by_cases c93 : t158 = true
                      · subst c93
                        have H1 : (some false) = some r := by rw [if_pos rfl] at H; exact H
                        clear H
                        have H := H1
                        clear H1
                        exact absurd ((Option.some.inj H).trans HRT.out) (by decide)
                      · replace c93 := Bool.eq_false_iff.mpr c93
                        subst c93
                        have H1 : (some false) = some r := by rw [if_neg (show ¬ (false = true) by decide)] at H; exact H
                        clear H
                        have H := H1
                        clear H1
                        exact absurd ((Option.some.inj H).trans HRT.out) (by decide)
                  · rw [if_neg c90] at H
                    have c90b0 : (q184 == 2) = false := beq_eq_false_iff_ne.mpr c90
                    have c90b1 : (q184 != 2) = true := bne_iff_ne.mpr c90
                    by_cases c94 : t158 = true
                    · subst c94
                      have H1 : (some false) = some r := by rw [if_pos rfl] at H; exact H
                      clear H
                      have H := H1
                      clear H1
                      exact absurd ((Option.some.inj H).trans HRT.out) (by decide)
                    · replace c94 := Bool.eq_false_iff.mpr c94
                      subst c94
                      have H1 : (some false) = some r := by rw [if_neg (show ¬ (false = true) by decide)] at H; exact H
                      clear H
                      have H := H1
                      clear H1
                      exact absurd ((Option.some.inj H).trans HRT.out) (by decide)
            · have H1 : (if q182 = 2 then (if t159 = 0 then (if t172 = true then (if t164.isNone = true then (if (IntKind.u64.wrap (t162)) = t170 then (if t163 = t171 then (if t158 = true then (if t160 = 0 then (some true) else (some false)) else (some false)) else (if t158 = true then (if t160 = 0 then (some false) else (some false)) else (some false))) else (if t158 = true then (if t160 = 0 then (some false) else (some false)) else (some false))) else (if t158 = true then (if t160 = 0 then (some false) else (some false)) else (some false))) else (if t164.isNone = true then (if t158 = true then (if t160 = 0 then (some false) else (some false)) else (some false)) else (if (t164.getD 0) = 2 then (if t162 = 0 then (if t158 = true then (if t160 = 0 then (some (t163 == 0)) else (some false)) else (some false)) else (if t158 = true then (if t160 = 0 then (some false) else (some false)) else (some false))) else (if t158 = true then (if t160 = 0 then (some false) else (some false)) else (some false))))) else (if t172 = true then (if t164.isNone = true then (if (IntKind.u64.wrap (t162)) = t170 then (if t163 = t171 then (if t158 = true then (some false) else (some false)) else (if t158 = true then (some false) else (some false))) else (if t158 = true then (some false) else (some false))) else (if t158 = true then (some false) else (some false))) else (if t164.isNone = true then (if t158 = true then (some false) else (some false)) else (if (t164.getD 0) = 2 then (if t162 = 0 then (if t158 = true then (some false) else (some false)) else (if t158 = true then (some false) else (some false))) else (if t158 = true then (some false) else (some false)))))) else (if t172 = true then (if t164.isNone = true then (if (IntKind.u64.wrap (t162)) = t170 then (if t163 = t171 then (if t158 = true then (some false) else (some false)) else (if t158 = true then (some false) else (some false))) else (if t158 = true then (some false) else (some false))) else (if t158 = true then (some false) else (some false))) else (if t164.isNone = true then (if t158 = true then (some false) else (some false)) else (if (t164.getD 0) = 2 then (if t162 = 0 then (if t158 = true then (some false) else (some false)) else (if t158 = true then (some false) else (some false))) else (if t158 = true then (some false) else (some false)))))) = some r := by rw [if_neg (show ¬ (some q182).isNone = true by simp)] at H; exact H
              clear H
              have H := H1
              clear H1
              try simp only [errW_none, errW_some]
              by_cases c95 : q182 = 2
              · rw [if_pos c95] at H
                have c95b0 : (q182 == 2) = true := beq_iff_eq.mpr c95
                have c95b1 : (q182 != 2) = false := bne_eq_false_iff_eq.mpr c95
                clear c95
                by_cases c96 : t159 = 0
                · rw [if_pos c96] at H
                  have c96b0 : (t159 == 0) = true := beq_iff_eq.mpr c96
                  have c96b1 : (t159 != 0) = false := bne_eq_false_iff_eq.mpr c96
                  clear c96
                  by_cases c97 : t172 = true
                  · subst c97
                    have H1 : (if t164.isNone = true then (if (IntKind.u64.wrap (t162)) = t170 then (if t163 = t171 then (if t158 = true then (if t160 = 0 then (some true) else (some false)) else (some false)) else (if t158 = true then (if t160 = 0 then (some false) else (some false)) else (some false))) else (if t158 = true then (if t160 = 0 then (some false) else (some false)) else (some false))) else (if t158 = true then (if t160 = 0 then (some false) else (some false)) else (some false))) = some r := by rw [if_pos rfl] at H; exact H
                    clear H
                    have H := H1
                    clear H1
                    rcases t164 with _ | q185
                    · have H1 : (if (IntKind.u64.wrap (t162)) = t170 then (if t163 = t171 then (if t158 = true then (if t160 = 0 then (some true) else (some false)) else (some false)) else (if t158 = true then (if t160 = 0 then (some false) else (some false)) else (some false))) else (if t158 = true then (if t160 = 0 then (some false) else (some false)) else (some false))) = some r := by rw [if_pos (show (none : Option Int).isNone = true by rfl)] at H; exact H
                      clear H
                      have H := H1
                      clear H1
                      try simp only [errW_none, errW_some]
                      by_cases c98 : (IntKind.u64.wrap (t162)) = t170
                      · rw [if_pos c98] at H
                        have c98b0 : ((IntKind.u64.wrap (t162)) == t170) = true := beq_iff_eq.mpr c98
                        have c98b1 : ((IntKind.u64.wrap (t162)) != t170) = false := bne_eq_false_iff_eq.mpr c98
                        clear c98
                        by_cases c99 : t163 = t171
                        · rw [if_pos c99] at H
                          have c99b0 : (t163 == t171) = true := beq_iff_eq.mpr c99
                          have c99b1 : (t163 != t171) = false := bne_eq_false_iff_eq.mpr c99
                          clear c99
                          by_cases c100 : t158 = true
                          · subst c100
                            have H1 : (if t160 = 0 then (some true) else (some false)) = some r := by rw [if_pos rfl] at H; exact H
                            clear H
                            have H := H1
                            clear H1
                            by_cases c101 : t160 = 0
                            · rw [if_pos c101] at H
                              have c101b0 : (t160 == 0) = true := beq_iff_eq.mpr c101
                              have c101b1 : (t160 != 0) = false := bne_eq_false_iff_eq.mpr c101
                              clear c101
                              obtain rfl := Option.some.inj H
                              go_wp2_with (first | ((with_reducible refine gate_callee (f := 12) rfl ?_); refine goesL_ (some 90) rfl rfl Try.func12 (by kernel_rfl) rfl #[.slice A0 l0.length c0, .int .i64 a1, .int .i64 a2, .bool false] rfl (by (try simp only [List.map_toArray, List.map_cons, List.map_nil]); first | done | rfl | (simp only [List.length_drop, List.length_take]; rfl)) ?_; (with_reducible refine (grommetref01_Read.calls kj8 _ _ l0 a1 a2 false t167 t168 false _ ?side1 ?side2 A21.out).mono ?_); (case side1 => repeat (first | exact (Kd.C_below HR0.out HB.out) | (with_reducible refine Kd.C_alloc ?_ _) | (with_reducible refine Kd.C_drewN ?_ _) | (with_reducible refine Kd.C_drew ?_))); (case side2 => exact HC0.out); rintro e w102 ⟨rfl, hb⟩; refine ⟨_, rfl, ?_⟩; have n0_ := Aside0.mk (below_step (by repeat (first | (with_reducible first | exact HB.out | apply below_alloc | apply pw_below_drewN | apply below_drew1) | exact HB.out)) hb); clear HB; have HB := n0_; clear n0_; (try clear hb); (try clear hb2); (try clear hk); (try clear hi)) | ((with_reducible refine gate_callee (f := 12) rfl ?_); refine goesL_ (some 98) rfl rfl Try.func12 (by kernel_rfl) rfl #[.slice A0 l0.length c0, .int .i64 a1, .int .i64 a2, .bool true] rfl (by (try simp only [List.map_toArray, List.map_cons, List.map_nil]); first | done | rfl | (simp only [List.length_drop, List.length_take]; rfl)) ?_; (with_reducible refine (grommetref01_Read.calls kj8 _ _ l0 a1 a2 true t170 t171 true _ ?side1 ?side2 A22.out).mono ?_); (case side1 => repeat (first | exact (Kd.C_below HR0.out HB.out) | (with_reducible refine Kd.C_alloc ?_ _) | (with_reducible refine Kd.C_drewN ?_ _) | (with_reducible refine Kd.C_drew ?_))); (case side2 => exact HC0.out); rintro e w103 ⟨rfl, hb⟩; refine ⟨_, rfl, ?_⟩; have n0_ := Aside0.mk (below_step (by repeat (first | (with_reducible first | exact HB.out | apply below_alloc | apply pw_below_drewN | apply below_drew1) | exact HB.out)) hb); clear HB; have HB := n0_; clear n0_; (try clear hb); (try clear hb2); (try clear hk); (try clear hi)))
                              go_ret
                              exact ⟨by first | rfl | (simp [errW_none, errW_some] <;> rfl) | (simp [*, errW_none, errW_some] <;> rfl), by repeat (first | (with_reducible first | exact HB.out | apply below_alloc | apply pw_below_drewN | apply below_drew1) | exact HB.out)⟩
                            · rw [if_neg c101] at H
                              have c101b0 : (t160 == 0) = false := beq_eq_false_iff_ne.mpr c101
                              have c101b1 : (t160 != 0) = true := bne_iff_ne.mpr c101
                              exact absurd ((Option.some.inj H).trans HRT.out) (by decide)
                          · replace c100 := Bool.eq_false_iff.mpr c100
                            subst c100
                            have H1 : (some false) = some r := by rw [if_neg (show ¬ (false = true) by decide)] at H; exact H
                            clear H
                            have H := H1
                            clear H1
                            exact absurd ((Option.some.inj H).trans HRT.out) (by decide)
                        · rw [if_neg c99] at H
                          have c99b0 : (t163 == t171) = false := beq_eq_false_iff_ne.mpr c99
                          have c99b1 : (t163 != t171) = true := bne_iff_ne.mpr c99
                          by_cases c104 : t158 = true
                          · subst c104
                            have H1 : (if t160 = 0 then (some false) else (some false)) = some r := by rw [if_pos rfl] at H; exact H
                            clear H
                            have H := H1
                            clear H1
                            by_cases c105 : t160 = 0
                            · rw [if_pos c105] at H
                              have c105b0 : (t160 == 0) = true := beq_iff_eq.mpr c105
                              have c105b1 : (t160 != 0) = false := bne_eq_false_iff_eq.mpr c105
                              clear c105
                              exact absurd ((Option.some.inj H).trans HRT.out) (by decide)
                            · rw [if_neg c105] at H
                              have c105b0 : (t160 == 0) = false := beq_eq_false_iff_ne.mpr c105
                              have c105b1 : (t160 != 0) = true := bne_iff_ne.mpr c105
                              exact absurd ((Option.some.inj H).trans HRT.out) (by decide)
                          · replace c104 := Bool.eq_false_iff.mpr c104
                            subst c104
                            have H1 : (some false) = some r := by rw [if_neg (show ¬ (false = true) by decide)] at H; exact H
                            clear H
                            have H := H1
                            clear H1
                            exact absurd ((Option.some.inj H).trans HRT.out) (by decide)
                      · rw [if_neg c98] at H
                        have c98b0 : ((IntKind.u64.wrap (t162)) == t170) = false := beq_eq_false_iff_ne.mpr c98
                        have c98b1 : ((IntKind.u64.wrap (t162)) != t170) = true := bne_iff_ne.mpr c98
                        by_cases c106 : t158 = true
                        · subst c106
                          have H1 : (if t160 = 0 then (some false) else (some false)) = some r := by rw [if_pos rfl] at H; exact H
                          clear H
                          have H := H1
                          clear H1
                          by_cases c107 : t160 = 0
                          · rw [if_pos c107] at H
                            have c107b0 : (t160 == 0) = true := beq_iff_eq.mpr c107
                            have c107b1 : (t160 != 0) = false := bne_eq_false_iff_eq.mpr c107
                            clear c107
                            exact absurd ((Option.some.inj H).trans HRT.out) (by decide)
                          · rw [if_neg c107] at H
                            have c107b0 : (t160 == 0) = false := beq_eq_false_iff_ne.mpr c107
                            have c107b1 : (t160 != 0) = true := bne_iff_ne.mpr c107
                            exact absurd ((Option.some.inj H).trans HRT.out) (by decide)
                        · replace c106 := Bool.eq_false_iff.mpr c106
                          subst c106
                          have H1 : (some false) = some r := by rw [if_neg (show ¬ (false = true) by decide)] at H; exact H
                          clear H
                          have H := H1
                          clear H1
                          exact absurd ((Option.some.inj H).trans HRT.out) (by decide)
                    · have H1 : (if t158 = true then (if t160 = 0 then (some false) else (some false)) else (some false)) = some r := by rw [if_neg (show ¬ (some q185).isNone = true by simp)] at H; exact H
                      clear H
                      have H := H1
                      clear H1
                      try simp only [errW_none, errW_some]
                      by_cases c108 : t158 = true
                      · subst c108
                        have H1 : (if t160 = 0 then (some false) else (some false)) = some r := by rw [if_pos rfl] at H; exact H
                        clear H
                        have H := H1
                        clear H1
                        by_cases c109 : t160 = 0
                        · rw [if_pos c109] at H
                          have c109b0 : (t160 == 0) = true := beq_iff_eq.mpr c109
                          have c109b1 : (t160 != 0) = false := bne_eq_false_iff_eq.mpr c109
                          clear c109
                          exact absurd ((Option.some.inj H).trans HRT.out) (by decide)
                        · rw [if_neg c109] at H
                          have c109b0 : (t160 == 0) = false := beq_eq_false_iff_ne.mpr c109
                          have c109b1 : (t160 != 0) = true := bne_iff_ne.mpr c109
                          exact absurd ((Option.some.inj H).trans HRT.out) (by decide)
                      · replace c108 := Bool.eq_false_iff.mpr c108
                        subst c108
                        have H1 : (some false) = some r := by rw [if_neg (show ¬ (false = true) by decide)] at H; exact H
                        clear H
                        have H := H1
                        clear H1
                        exact absurd ((Option.some.inj H).trans HRT.out) (by decide)
                  · replace c97 := Bool.eq_false_iff.mpr c97
                    subst c97
                    have H1 : (if t164.isNone = true then (if t158 = true then (if t160 = 0 then (some false) else (some false)) else (some false)) else (if (t164.getD 0) = 2 then (if t162 = 0 then (if t158 = true then (if t160 = 0 then (some (t163 == 0)) else (some false)) else (some false)) else (if t158 = true then (if t160 = 0 then (some false) else (some false)) else (some false))) else (if t158 = true then (if t160 = 0 then (some false) else (some false)) else (some false)))) = some r := by rw [if_neg (show ¬ (false = true) by decide)] at H; exact H
                    clear H
                    have H := H1
                    clear H1
                    rcases t164 with _ | q186
                    · have H1 : (if t158 = true then (if t160 = 0 then (some false) else (some false)) else (some false)) = some r := by rw [if_pos (show (none : Option Int).isNone = true by rfl)] at H; exact H
                      clear H
                      have H := H1
                      clear H1
                      try simp only [errW_none, errW_some]
                      by_cases c110 : t158 = true
                      · subst c110
                        have H1 : (if t160 = 0 then (some false) else (some false)) = some r := by rw [if_pos rfl] at H; exact H
                        clear H
                        have H := H1
                        clear H1
                        by_cases c111 : t160 = 0
                        · rw [if_pos c111] at H
                          have c111b0 : (t160 == 0) = true := beq_iff_eq.mpr c111
                          have c111b1 : (t160 != 0) = false := bne_eq_false_iff_eq.mpr c111
                          clear c111
                          exact absurd ((Option.some.inj H).trans HRT.out) (by decide)
                        · rw [if_neg c111] at H
                          have c111b0 : (t160 == 0) = false := beq_eq_false_iff_ne.mpr c111
                          have c111b1 : (t160 != 0) = true := bne_iff_ne.mpr c111
                          exact absurd ((Option.some.inj H).trans HRT.out) (by decide)
                      · replace c110 := Bool.eq_false_iff.mpr c110
                        subst c110
                        have H1 : (some false) = some r := by rw [if_neg (show ¬ (false = true) by decide)] at H; exact H
                        clear H
                        have H := H1
                        clear H1
                        exact absurd ((Option.some.inj H).trans HRT.out) (by decide)
                    · have H1 : (if q186 = 2 then (if t162 = 0 then (if t158 = true then (if t160 = 0 then (some (t163 == 0)) else (some false)) else (some false)) else (if t158 = true then (if t160 = 0 then (some false) else (some false)) else (some false))) else (if t158 = true then (if t160 = 0 then (some false) else (some false)) else (some false))) = some r := by rw [if_neg (show ¬ (some q186).isNone = true by simp)] at H; exact H
                      clear H
                      have H := H1
                      clear H1
                      try simp only [errW_none, errW_some]
                      by_cases c112 : q186 = 2
                      · rw [if_pos c112] at H
                        have c112b0 : (q186 == 2) = true := beq_iff_eq.mpr c112
                        have c112b1 : (q186 != 2) = false := bne_eq_false_iff_eq.mpr c112
                        clear c112
                        by_cases c113 : t162 = 0
                        · rw [if_pos c113] at H
                          have c113b0 : (t162 == 0) = true := beq_iff_eq.mpr c113
                          have c113b1 : (t162 != 0) = false := bne_eq_false_iff_eq.mpr c113
                          clear c113
                          by_cases c114 : t158 = true
                          · subst c114
                            have H1 : (if t160 = 0 then (some (t163 == 0)) else (some false)) = some r := by rw [if_pos rfl] at H; exact H
                            clear H
                            have H := H1
                            clear H1
                            by_cases c115 : t160 = 0
                            · rw [if_pos c115] at H
                              have c115b0 : (t160 == 0) = true := beq_iff_eq.mpr c115
                              have c115b1 : (t160 != 0) = false := bne_eq_false_iff_eq.mpr c115
                              clear c115
                              obtain rfl := Option.some.inj H
                              go_wp2_with (first | ((with_reducible refine gate_callee (f := 12) rfl ?_); refine goesL_ (some 90) rfl rfl Try.func12 (by kernel_rfl) rfl #[.slice A0 l0.length c0, .int .i64 a1, .int .i64 a2, .bool false] rfl (by (try simp only [List.map_toArray, List.map_cons, List.map_nil]); first | done | rfl | (simp only [List.length_drop, List.length_take]; rfl)) ?_; (with_reducible refine (grommetref01_Read.calls kj8 _ _ l0 a1 a2 false t167 t168 false _ ?side1 ?side2 A21.out).mono ?_); (case side1 => repeat (first | exact (Kd.C_below HR0.out HB.out) | (with_reducible refine Kd.C_alloc ?_ _) | (with_reducible refine Kd.C_drewN ?_ _) | (with_reducible refine Kd.C_drew ?_))); (case side2 => exact HC0.out); rintro e w116 ⟨rfl, hb⟩; refine ⟨_, rfl, ?_⟩; have n0_ := Aside0.mk (below_step (by repeat (first | (with_reducible first | exact HB.out | apply below_alloc | apply pw_below_drewN | apply below_drew1) | exact HB.out)) hb); clear HB; have HB := n0_; clear n0_; (try clear hb); (try clear hb2); (try clear hk); (try clear hi)) | ((with_reducible refine gate_callee (f := 12) rfl ?_); refine goesL_ (some 98) rfl rfl Try.func12 (by kernel_rfl) rfl #[.slice A0 l0.length c0, .int .i64 a1, .int .i64 a2, .bool true] rfl (by (try simp only [List.map_toArray, List.map_cons, List.map_nil]); first | done | rfl | (simp only [List.length_drop, List.length_take]; rfl)) ?_; (with_reducible refine (grommetref01_Read.calls kj8 _ _ l0 a1 a2 true t170 t171 false _ ?side1 ?side2 A22.out).mono ?_); (case side1 => repeat (first | exact (Kd.C_below HR0.out HB.out) | (with_reducible refine Kd.C_alloc ?_ _) | (with_reducible refine Kd.C_drewN ?_ _) | (with_reducible refine Kd.C_drew ?_))); (case side2 => exact HC0.out); rintro e w117 ⟨rfl, hb⟩; refine ⟨_, rfl, ?_⟩; have n0_ := Aside0.mk (below_step (by repeat (first | (with_reducible first | exact HB.out | apply below_alloc | apply pw_below_drewN | apply below_drew1) | exact HB.out)) hb); clear HB; have HB := n0_; clear n0_; (try clear hb); (try clear hb2); (try clear hk); (try clear hi)))
                              go_ret
                              exact ⟨by first | rfl | (simp [errW_none, errW_some] <;> rfl) | (simp [*, errW_none, errW_some] <;> rfl), by repeat (first | (with_reducible first | exact HB.out | apply below_alloc | apply pw_below_drewN | apply below_drew1) | exact HB.out)⟩
                            · rw [if_neg c115] at H
                              have c115b0 : (t160 == 0) = false := beq_eq_false_iff_ne.mpr c115
                              have c115b1 : (t160 != 0) = true := bne_iff_ne.mpr c115
                              exact absurd ((Option.some.inj H).trans HRT.out) (by decide)
                          · replace c114 := Bool.eq_false_iff.mpr c114
                            subst c114
                            have H1 : (some false) = some r := by rw [if_neg (show ¬ (false = true) by decide)] at H; exact H
                            clear H
                            have H := H1
                            clear H1
                            exact absurd ((Option.some.inj H).trans HRT.out) (by decide)
                        · rw [if_neg c113] at H
                          have c113b0 : (t162 == 0) = false := beq_eq_false_iff_ne.mpr c113
                          have c113b1 : (t162 != 0) = true := bne_iff_ne.mpr c113
                          by_cases c118 : t158 = true
                          · subst c118
                            have H1 : (if t160 = 0 then (some false) else (some false)) = some r := by rw [if_pos rfl] at H; exact H
                            clear H
                            have H := H1
                            clear H1
                            by_cases c119 : t160 = 0
                            · rw [if_pos c119] at H
                              have c119b0 : (t160 == 0) = true := beq_iff_eq.mpr c119
                              have c119b1 : (t160 != 0) = false := bne_eq_false_iff_eq.mpr c119
                              clear c119
                              exact absurd ((Option.some.inj H).trans HRT.out) (by decide)
                            · rw [if_neg c119] at H
                              have c119b0 : (t160 == 0) = false := beq_eq_false_iff_ne.mpr c119
                              have c119b1 : (t160 != 0) = true := bne_iff_ne.mpr c119
                              exact absurd ((Option.some.inj H).trans HRT.out) (by decide)
                          · replace c118 := Bool.eq_false_iff.mpr c118
                            subst c118
                            have H1 : (some false) = some r := by rw [if_neg (show ¬ (false = true) by decide)] at H; exact H
                            clear H
                            have H := H1
                            clear H1
                            exact absurd ((Option.some.inj H).trans HRT.out) (by decide)
                      · rw [if_neg c112] at H
                        have c112b0 : (q186 == 2) = false := beq_eq_false_iff_ne.mpr c112
                        have c112b1 : (q186 != 2) = true := bne_iff_ne.mpr c112
                        by_cases c120 : t158 = true
                        · subst c120
                          have H1 : (if t160 = 0 then (some false) else (some false)) = some r := by rw [if_pos rfl] at H; exact H
                          clear H
                          have H := H1
                          clear H1
                          by_cases c121 : t160 = 0
                          · rw [if_pos c121] at H
                            have c121b0 : (t160 == 0) = true := beq_iff_eq.mpr c121
                            have c121b1 : (t160 != 0) = false := bne_eq_false_iff_eq.mpr c121
                            clear c121
                            exact absurd ((Option.some.inj H).trans HRT.out) (by decide)
                          · rw [if_neg c121] at H
                            have c121b0 : (t160 == 0) = false := beq_eq_false_iff_ne.mpr c121
                            have c121b1 : (t160 != 0) = true := bne_iff_ne.mpr c121
                            exact absurd ((Option.some.inj H).trans HRT.out) (by decide)
                        · replace c120 := Bool.eq_false_iff.mpr c120
                          subst c120
                          have H1 : (some false) = some r := by rw [if_neg (show ¬ (false = true) by decide)] at H; exact H
                          clear H
                          have H := H1
                          clear H1
                          exact absurd ((Option.some.inj H).trans HRT.out) (by decide)
                · rw [if_neg c96] at H
                  have c96b0 : (t159 == 0) = false := beq_eq_false_iff_ne.mpr c96
                  have c96b1 : (t159 != 0) = true := bne_iff_ne.mpr c96
                  by_cases c122 : t172 = true
                  · subst c122
                    have H1 : (if t164.isNone = true then (if (IntKind.u64.wrap (t162)) = t170 then (if t163 = t171 then (if t158 = true then (some false) else (some false)) else (if t158 = true then (some false) else (some false))) else (if t158 = true then (some false) else (some false))) else (if t158 = true then (some false) else (some false))) = some r := by rw [if_pos rfl] at H; exact H
                    clear H
                    have H := H1
                    clear H1
                    rcases t164 with _ | q187
                    · have H1 : (if (IntKind.u64.wrap (t162)) = t170 then (if t163 = t171 then (if t158 = true then (some false) else (some false)) else (if t158 = true then (some false) else (some false))) else (if t158 = true then (some false) else (some false))) = some r := by rw [if_pos (show (none : Option Int).isNone = true by rfl)] at H; exact H
                      clear H
                      have H := H1
                      clear H1
                      try simp only [errW_none, errW_some]
                      by_cases c123 : (IntKind.u64.wrap (t162)) = t170
                      · rw [if_pos c123] at H
                        have c123b0 : ((IntKind.u64.wrap (t162)) == t170) = true := beq_iff_eq.mpr c123
                        have c123b1 : ((IntKind.u64.wrap (t162)) != t170) = false := bne_eq_false_iff_eq.mpr c123
                        clear c123
                        by_cases c124 : t163 = t171
                        · rw [if_pos c124] at H
                          have c124b0 : (t163 == t171) = true := beq_iff_eq.mpr c124
                          have c124b1 : (t163 != t171) = false := bne_eq_false_iff_eq.mpr c124
                          clear c124
                          by_cases c125 : t158 = true
                          · subst c125
                            have H1 : (some false) = some r := by rw [if_pos rfl] at H; exact H
                            clear H
                            have H := H1
                            clear H1
                            exact absurd ((Option.some.inj H).trans HRT.out) (by decide)
                          · replace c125 := Bool.eq_false_iff.mpr c125
                            subst c125
                            have H1 : (some false) = some r := by rw [if_neg (show ¬ (false = true) by decide)] at H; exact H
                            clear H
                            have H := H1
                            clear H1
                            exact absurd ((Option.some.inj H).trans HRT.out) (by decide)
                        · rw [if_neg c124] at H
                          have c124b0 : (t163 == t171) = false := beq_eq_false_iff_ne.mpr c124
                          have c124b1 : (t163 != t171) = true := bne_iff_ne.mpr c124
                          by_cases c126 : t158 = true
                          · subst c126
                            have H1 : (some false) = some r := by rw [if_pos rfl] at H; exact H
                            clear H
                            have H := H1
                            clear H1
                            exact absurd ((Option.some.inj H).trans HRT.out) (by decide)
                          · replace c126 := Bool.eq_false_iff.mpr c126
                            subst c126
                            have H1 : (some false) = some r := by rw [if_neg (show ¬ (false = true) by decide)] at H; exact H
                            clear H
                            have H := H1
                            clear H1
                            exact absurd ((Option.some.inj H).trans HRT.out) (by decide)
                      · rw [if_neg c123] at H
                        have c123b0 : ((IntKind.u64.wrap (t162)) == t170) = false := beq_eq_false_iff_ne.mpr c123
                        have c123b1 : ((IntKind.u64.wrap (t162)) != t170) = true := bne_iff_ne.mpr c123
                        by_cases c127 : t158 = true
                        · subst c127
                          have H1 : (some false) = some r := by rw [if_pos rfl] at H; exact H
                          clear H
                          have H := H1
                          clear H1
                          exact absurd ((Option.some.inj H).trans HRT.out) (by decide)
                        · replace c127 := Bool.eq_false_iff.mpr c127
                          subst c127
                          have H1 : (some false) = some r := by rw [if_neg (show ¬ (false = true) by decide)] at H; exact H
                          clear H
                          have H := H1
                          clear H1
                          exact absurd ((Option.some.inj H).trans HRT.out) (by decide)
                    · have H1 : (if t158 = true then (some false) else (some false)) = some r := by rw [if_neg (show ¬ (some q187).isNone = true by simp)] at H; exact H
                      clear H
                      have H := H1
                      clear H1
                      try simp only [errW_none, errW_some]
                      by_cases c128 : t158 = true
                      · subst c128
                        have H1 : (some false) = some r := by rw [if_pos rfl] at H; exact H
                        clear H
                        have H := H1
                        clear H1
                        exact absurd ((Option.some.inj H).trans HRT.out) (by decide)
                      · replace c128 := Bool.eq_false_iff.mpr c128
                        subst c128
                        have H1 : (some false) = some r := by rw [if_neg (show ¬ (false = true) by decide)] at H; exact H
                        clear H
                        have H := H1
                        clear H1
                        exact absurd ((Option.some.inj H).trans HRT.out) (by decide)
                  · replace c122 := Bool.eq_false_iff.mpr c122
                    subst c122
                    have H1 : (if t164.isNone = true then (if t158 = true then (some false) else (some false)) else (if (t164.getD 0) = 2 then (if t162 = 0 then (if t158 = true then (some false) else (some false)) else (if t158 = true then (some false) else (some false))) else (if t158 = true then (some false) else (some false)))) = some r := by rw [if_neg (show ¬ (false = true) by decide)] at H; exact H
                    clear H
                    have H := H1
                    clear H1
                    rcases t164 with _ | q188
                    · have H1 : (if t158 = true then (some false) else (some false)) = some r := by rw [if_pos (show (none : Option Int).isNone = true by rfl)] at H; exact H
                      clear H
                      have H := H1
                      clear H1
                      try simp only [errW_none, errW_some]
                      by_cases c129 : t158 = true
                      · subst c129
                        have H1 : (some false) = some r := by rw [if_pos rfl] at H; exact H
                        clear H
                        have H := H1
                        clear H1
                        exact absurd ((Option.some.inj H).trans HRT.out) (by decide)
                      · replace c129 := Bool.eq_false_iff.mpr c129
                        subst c129
                        have H1 : (some false) = some r := by rw [if_neg (show ¬ (false = true) by decide)] at H; exact H
                        clear H
                        have H := H1
                        clear H1
                        exact absurd ((Option.some.inj H).trans HRT.out) (by decide)
                    · have H1 : (if q188 = 2 then (if t162 = 0 then (if t158 = true then (some false) else (some false)) else (if t158 = true then (some false) else (some false))) else (if t158 = true then (some false) else (some false))) = some r := by rw [if_neg (show ¬ (some q188).isNone = true by simp)] at H; exact H
                      clear H
                      have H := H1
                      clear H1
                      try simp only [errW_none, errW_some]
                      by_cases c130 : q188 = 2
                      · rw [if_pos c130] at H
                        have c130b0 : (q188 == 2) = true := beq_iff_eq.mpr c130
                        have c130b1 : (q188 != 2) = false := bne_eq_false_iff_eq.mpr c130
                        clear c130
                        by_cases c131 : t162 = 0
                        · rw [if_pos c131] at H
                          have c131b0 : (t162 == 0) = true := beq_iff_eq.mpr c131
                          have c131b1 : (t162 != 0) = false := bne_eq_false_iff_eq.mpr c131
                          clear c131
                          by_cases c132 : t158 = true
                          · subst c132
                            have H1 : (some false) = some r := by rw [if_pos rfl] at H; exact H
                            clear H
                            have H := H1
                            clear H1
                            exact absurd ((Option.some.inj H).trans HRT.out) (by decide)
                          · replace c132 := Bool.eq_false_iff.mpr c132
                            subst c132
                            have H1 : (some false) = some r := by rw [if_neg (show ¬ (false = true) by decide)] at H; exact H
                            clear H
                            have H := H1
                            clear H1
                            exact absurd ((Option.some.inj H).trans HRT.out) (by decide)
                        · rw [if_neg c131] at H
                          have c131b0 : (t162 == 0) = false := beq_eq_false_iff_ne.mpr c131
                          have c131b1 : (t162 != 0) = true := bne_iff_ne.mpr c131
                          by_cases c133 : t158 = true
                          · subst c133
                            have H1 : (some false) = some r := by rw [if_pos rfl] at H; exact H
                            clear H
                            have H := H1
                            clear H1
                            exact absurd ((Option.some.inj H).trans HRT.out) (by decide)
                          · replace c133 := Bool.eq_false_iff.mpr c133
                            subst c133
                            have H1 : (some false) = some r := by rw [if_neg (show ¬ (false = true) by decide)] at H; exact H
                            clear H
                            have H := H1
                            clear H1
                            exact absurd ((Option.some.inj H).trans HRT.out) (by decide)
                      · rw [if_neg c130] at H
                        have c130b0 : (q188 == 2) = false := beq_eq_false_iff_ne.mpr c130
                        have c130b1 : (q188 != 2) = true := bne_iff_ne.mpr c130
                        by_cases c134 : t158 = true
                        · subst c134
                          have H1 : (some false) = some r := by rw [if_pos rfl] at H; exact H
                          clear H
                          have H := H1
                          clear H1
                          exact absurd ((Option.some.inj H).trans HRT.out) (by decide)
                        · replace c134 := Bool.eq_false_iff.mpr c134
                          subst c134
                          have H1 : (some false) = some r := by rw [if_neg (show ¬ (false = true) by decide)] at H; exact H
                          clear H
                          have H := H1
                          clear H1
                          exact absurd ((Option.some.inj H).trans HRT.out) (by decide)
              · rw [if_neg c95] at H
                have c95b0 : (q182 == 2) = false := beq_eq_false_iff_ne.mpr c95
                have c95b1 : (q182 != 2) = true := bne_iff_ne.mpr c95
                by_cases c135 : t172 = true
                · subst c135
                  have H1 : (if t164.isNone = true then (if (IntKind.u64.wrap (t162)) = t170 then (if t163 = t171 then (if t158 = true then (some false) else (some false)) else (if t158 = true then (some false) else (some false))) else (if t158 = true then (some false) else (some false))) else (if t158 = true then (some false) else (some false))) = some r := by rw [if_pos rfl] at H; exact H
                  clear H
                  have H := H1
                  clear H1
                  rcases t164 with _ | q189
                  · have H1 : (if (IntKind.u64.wrap (t162)) = t170 then (if t163 = t171 then (if t158 = true then (some false) else (some false)) else (if t158 = true then (some false) else (some false))) else (if t158 = true then (some false) else (some false))) = some r := by rw [if_pos (show (none : Option Int).isNone = true by rfl)] at H; exact H
                    clear H
                    have H := H1
                    clear H1
                    try simp only [errW_none, errW_some]
                    by_cases c136 : (IntKind.u64.wrap (t162)) = t170
                    · rw [if_pos c136] at H
                      have c136b0 : ((IntKind.u64.wrap (t162)) == t170) = true := beq_iff_eq.mpr c136
                      have c136b1 : ((IntKind.u64.wrap (t162)) != t170) = false := bne_eq_false_iff_eq.mpr c136
                      clear c136
                      by_cases c137 : t163 = t171
                      · rw [if_pos c137] at H
                        have c137b0 : (t163 == t171) = true := beq_iff_eq.mpr c137
                        have c137b1 : (t163 != t171) = false := bne_eq_false_iff_eq.mpr c137
                        clear c137
                        by_cases c138 : t158 = true
                        · subst c138
                          have H1 : (some false) = some r := by rw [if_pos rfl] at H; exact H
                          clear H
                          have H := H1
                          clear H1
                          exact absurd ((Option.some.inj H).trans HRT.out) (by decide)
                        · replace c138 := Bool.eq_false_iff.mpr c138
                          subst c138
                          have H1 : (some false) = some r := by rw [if_neg (show ¬ (false = true) by decide)] at H; exact H
                          clear H
                          have H := H1
                          clear H1
                          exact absurd ((Option.some.inj H).trans HRT.out) (by decide)
                      · rw [if_neg c137] at H
                        have c137b0 : (t163 == t171) = false := beq_eq_false_iff_ne.mpr c137
                        have c137b1 : (t163 != t171) = true := bne_iff_ne.mpr c137
                        by_cases c139 : t158 = true
                        · subst c139
                          have H1 : (some false) = some r := by rw [if_pos rfl] at H; exact H
                          clear H
                          have H := H1
                          clear H1
                          exact absurd ((Option.some.inj H).trans HRT.out) (by decide)
                        · replace c139 := Bool.eq_false_iff.mpr c139
                          subst c139
                          have H1 : (some false) = some r := by rw [if_neg (show ¬ (false = true) by decide)] at H; exact H
                          clear H
                          have H := H1
                          clear H1
                          exact absurd ((Option.some.inj H).trans HRT.out) (by decide)
                    · rw [if_neg c136] at H
                      have c136b0 : ((IntKind.u64.wrap (t162)) == t170) = false := beq_eq_false_iff_ne.mpr c136
                      have c136b1 : ((IntKind.u64.wrap (t162)) != t170) = true := bne_iff_ne.mpr c136
                      by_cases c140 : t158 = true
                      · subst c140
                        have H1 : (some false) = some r := by rw [if_pos rfl] at H; exact H
                        clear H
                        have H := H1
                        clear H1
                        exact absurd ((Option.some.inj H).trans HRT.out) (by decide)
                      · replace c140 := Bool.eq_false_iff.mpr c140
                        subst c140
                        have H1 : (some false) = some r := by rw [if_neg (show ¬ (false = true) by decide)] at H; exact H
                        clear H
                        have H := H1
                        clear H1
                        exact absurd ((Option.some.inj H).trans HRT.out) (by decide)
                  · have H1 : (if t158 = true then (some false) else (some false)) = some r := by rw [if_neg (show ¬ (some q189).isNone = true by simp)] at H; exact H
                    clear H
                    have H := H1
                    clear H1
                    try simp only [errW_none, errW_some]
                    by_cases c141 : t158 = true
                    · subst c141
                      have H1 : (some false) = some r := by rw [if_pos rfl] at H; exact H
                      clear H
                      have H := H1
                      clear H1
                      exact absurd ((Option.some.inj H).trans HRT.out) (by decide)
                    · replace c141 := Bool.eq_false_iff.mpr c141
                      subst c141
                      have H1 : (some false) = some r := by rw [if_neg (show ¬ (false = true) by decide)] at H; exact H
                      clear H
                      have H := H1
                      clear H1
                      exact absurd ((Option.some.inj H).trans HRT.out) (by decide)
                · replace c135 := Bool.eq_false_iff.mpr c135
                  subst c135
                  have H1 : (if t164.isNone = true then (if t158 = true then (some false) else (some false)) else (if (t164.getD 0) = 2 then (if t162 = 0 then (if t158 = true then (some false) else (some false)) else (if t158 = true then (some false) else (some false))) else (if t158 = true then (some false) else (some false)))) = some r := by rw [if_neg (show ¬ (false = true) by decide)] at H; exact H
                  clear H
                  have H := H1
                  clear H1
                  rcases t164 with _ | q190
                  · have H1 : (if t158 = true then (some false) else (some false)) = some r := by rw [if_pos (show (none : Option Int).isNone = true by rfl)] at H; exact H
                    clear H
                    have H := H1
                    clear H1
                    try simp only [errW_none, errW_some]
                    by_cases c142 : t158 = true
                    · subst c142
                      have H1 : (some false) = some r := by rw [if_pos rfl] at H; exact H
                      clear H
                      have H := H1
                      clear H1
                      exact absurd ((Option.some.inj H).trans HRT.out) (by decide)
                    · replace c142 := Bool.eq_false_iff.mpr c142
                      subst c142
                      have H1 : (some false) = some r := by rw [if_neg (show ¬ (false = true) by decide)] at H; exact H
                      clear H
                      have H := H1
                      clear H1
                      exact absurd ((Option.some.inj H).trans HRT.out) (by decide)
                  · have H1 : (if q190 = 2 then (if t162 = 0 then (if t158 = true then (some false) else (some false)) else (if t158 = true then (some false) else (some false))) else (if t158 = true then (some false) else (some false))) = some r := by rw [if_neg (show ¬ (some q190).isNone = true by simp)] at H; exact H
                    clear H
                    have H := H1
                    clear H1
                    try simp only [errW_none, errW_some]
                    by_cases c143 : q190 = 2
                    · rw [if_pos c143] at H
                      have c143b0 : (q190 == 2) = true := beq_iff_eq.mpr c143
                      have c143b1 : (q190 != 2) = false := bne_eq_false_iff_eq.mpr c143
                      clear c143
                      by_cases c144 : t162 = 0
                      · rw [if_pos c144] at H
                        have c144b0 : (t162 == 0) = true := beq_iff_eq.mpr c144
                        have c144b1 : (t162 != 0) = false := bne_eq_false_iff_eq.mpr c144
                        clear c144
                        by_cases c145 : t158 = true
                        · subst c145
                          have H1 : (some false) = some r := by rw [if_pos rfl] at H; exact H
                          clear H
                          have H := H1
                          clear H1
                          exact absurd ((Option.some.inj H).trans HRT.out) (by decide)
                        · replace c145 := Bool.eq_false_iff.mpr c145
                          subst c145
                          have H1 : (some false) = some r := by rw [if_neg (show ¬ (false = true) by decide)] at H; exact H
                          clear H
                          have H := H1
                          clear H1
                          exact absurd ((Option.some.inj H).trans HRT.out) (by decide)
                      · rw [if_neg c144] at H
                        have c144b0 : (t162 == 0) = false := beq_eq_false_iff_ne.mpr c144
                        have c144b1 : (t162 != 0) = true := bne_iff_ne.mpr c144
                        by_cases c146 : t158 = true
                        · subst c146
                          have H1 : (some false) = some r := by rw [if_pos rfl] at H; exact H
                          clear H
                          have H := H1
                          clear H1
                          exact absurd ((Option.some.inj H).trans HRT.out) (by decide)
                        · replace c146 := Bool.eq_false_iff.mpr c146
                          subst c146
                          have H1 : (some false) = some r := by rw [if_neg (show ¬ (false = true) by decide)] at H; exact H
                          clear H
                          have H := H1
                          clear H1
                          exact absurd ((Option.some.inj H).trans HRT.out) (by decide)
                    · rw [if_neg c143] at H
                      have c143b0 : (q190 == 2) = false := beq_eq_false_iff_ne.mpr c143
                      have c143b1 : (q190 != 2) = true := bne_iff_ne.mpr c143
                      by_cases c147 : t158 = true
                      · subst c147
                        have H1 : (some false) = some r := by rw [if_pos rfl] at H; exact H
                        clear H
                        have H := H1
                        clear H1
                        exact absurd ((Option.some.inj H).trans HRT.out) (by decide)
                      · replace c147 := Bool.eq_false_iff.mpr c147
                        subst c147
                        have H1 : (some false) = some r := by rw [if_neg (show ¬ (false = true) by decide)] at H; exact H
                        clear H
                        have H := H1
                        clear H1
                        exact absurd ((Option.some.inj H).trans HRT.out) (by decide)

/-- THE ONE PURE STATEMENT of grommetlaw01_LebReads: yours. -/
def grommetlaw01_LebReads.Pure : Prop := ∀ (l0 : List Int) (a1 : Int) (a2 : Int), l0.length ≤ maxLen → l0.length * 1 ≤ 140737488351232 → (∀ x ∈ l0, (Lit.int .u8 x).wf = true) → (Lit.int .i64 a1).wf = true → (Lit.int .i64 a2).wf = true → ∃ k, grommetlaw01_LebReads.f k l0 a1 a2 = some true
theorem grommetlaw01_LebReads.walk (P : grommetlaw01_LebReads.Pure) (a0 : Option Addr) (len0 cap0 : Nat) (z0 : List Int) (a1 : Int) (a2 : Int) (w : World) (w0 : (a0 = none ∧ len0 = 0 ∧ cap0 = 0 ∧ z0 = []) ∨ ∃ x, a0 = some x ∧ len0 ≤ cap0 ∧ cap0 ≤ maxLen ∧ z0.length = cap0 ∧ (∀ i, i < z0.length → w.cell? (x.add i) = some (.int .u8 (z0.getD i 0))) ∧ ∀ n ∈ z0, (Lit.int .u8 n).wf = true) (y0 : len0 * 1 ≤ 140737488351232) (w1 : (Lit.int .i64 a1).wf = true) (w2 : (Lit.int .i64 a2).wf = true) :
    Calls Try.prog 3 #[.slice a0 len0 cap0, .int .i64 a1, .int .i64 a2] w fun e w' => e = .returned (.bool true) ∧ Below w.heap.size w w' := by
  obtain ⟨l0, rfl, hr0, hm0, hw0, hc0⟩ := ReadsInt.ofRowC w0
  obtain ⟨k, h⟩ := P l0 a1 a2 hm0 y0 hw0 w1 w2
  refine (grommetlaw01_LebReads.calls k _ _ l0 a1 a2 true w (Kd.C_of_reads (d := (0 : Int)) (h1 := fun _ => rfl) hr0) hc0 h rfl).mono ?_
  rintro e w' ⟨rfl, hd⟩
  exact ⟨rfl, hd⟩

end Go.Proofs.Ytmpdlkjchhajjaa.RLebReads
