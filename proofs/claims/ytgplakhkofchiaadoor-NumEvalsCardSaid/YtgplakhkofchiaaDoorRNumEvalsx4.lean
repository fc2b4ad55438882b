-- Made by the program wip/patchprint.py (this session's own, over the kit's print)
import Derived.Test.YtgplakhkofchiaaDoorRNumEvalsx0
import Derived.Test.YtgplakhkofchiaaDoorRNumEvalsx3
namespace Go.Proofs.YtgplakhkofchiaaDoor.RNumEvals
open Go.RowKit Go.Proofs.YtgplakhkofchiaaDoor.Man Go.Proofs.YtgplakhkofchiaaDoorW.PrintWords Go.Proofs.YtgplakhkofchiaaDoorW.PrintLast Go.Proofs.YtgplakhkofchiaaDoorW.PrintMore
attribute [local go_sem] max2_int min2_int max_two min_two max_three min_three max_four min_four   -- for this text's walks alone
set_option linter.unusedVariables false
set_option linter.unusedSimpArgs false
set_option linter.unnecessarySimpa false

attribute [local go_sem] err_eql err_neq err_nil_eql err_nil_neq
attribute [local simp] shl_zero
/-! ### grommetlaw03_up: function 10 -/
def grommetlaw03_up.f (k : Nat)  : Option (Bool) := (num_Eval.f k 109 (([2147483648, 4294967295] : List Int))).bind fun bt143 => ((num_Eval.f k 117 (([2147483648, 33] : List Int))).bind fun bt149 => (if bt143.2.2.isNone = true then (if bt143.2.1 = 3 then (if bt149.2.2.isNone = true then (some (bt149.1 == 3221225472)) else (some false)) else (some false)) else (some false)))
theorem grommetlaw03_up.mono : ∀ k, LeO (grommetlaw03_up.f k ) (grommetlaw03_up.f (k + 1) ) := by
  intro  k
  unfold grommetlaw03_up.f
  repeat' first
      | (with_reducible exact num_Eval.mono _ _ _)
      | (with_reducible exact LeO.refl _)
      | (with_reducible exact LeO.none _)
      | (with_reducible refine LeO.ite ?_ ?_)
      | (with_reducible refine LeO.bind ?_ (fun _ => ?_))
      | exact num_Eval.mono _ _ _
      | exact LeO.none _
      | refine LeO.ite ?_ ?_
      | refine LeO.bind ?_ (fun _ => ?_)
set_option maxHeartbeats 8000000 in
set_option maxRecDepth 100000 in
theorem grommetlaw03_up.calls (k : Nat)  (r : Bool) (w : World) (hG : GL w) (h : grommetlaw03_up.f k  = some r) :
    Calls Tryd.prog 10 #[] w fun e w' => e = .returned (.bool r) ∧ Below w.heap.size w w' := by
  have hu30 := Tryd.underlying30
  have hu33 := Tryd.underlying33
  have HGL := Aside0.mk hG
  clear hG
  have HB := Aside0.mk (Below.refl w.heap.size w)
  have H : ((num_Eval.f k 109 (([2147483648, 4294967295] : List Int))).bind fun bt143 => ((num_Eval.f k 117 (([2147483648, 33] : List Int))).bind fun bt149 => (if bt143.2.2.isNone = true then (if bt143.2.1 = 3 then (if bt149.2.2.isNone = true then (some (bt149.1 == 3221225472)) else (some false)) else (some false)) else (some false)))) = some r := h
  clear h
  obtain ⟨y140, hy140⟩ : ∃ y_ : List Int, y_ = (([2147483648, 4294967295] : List Int)) := ⟨_, rfl⟩
  replace H : ((num_Eval.f k 109 y140).bind fun bt143 => ((num_Eval.f k 117 (([2147483648, 33] : List Int))).bind fun bt149 => (if bt143.2.2.isNone = true then (if bt143.2.1 = 3 then (if bt149.2.2.isNone = true then (some (bt149.1 == 3221225472)) else (some false)) else (some false)) else (some false)))) = some r := by first | (rw [hy140]; with_reducible exact H) | (have H2_ := (Option.bind_some _ _).symm.trans H; rw [hy140]; with_reducible exact H2_) | (have H2_ := (Option.bind_some _ _).symm.trans H; with_reducible exact H2_) | with_reducible exact H | (rw [hy140]; exact H) | exact H
  have Ny140 := Aside0.mk hy140
  clear hy140
  replace H := Option.bind_eq_some_iff.mp H
  obtain ⟨⟨t143, t144, t145⟩, A10, H⟩ := H
  replace H : ((num_Eval.f k 117 (([2147483648, 33] : List Int))).bind fun bt149 => (if t145.isNone = true then (if t144 = 3 then (if bt149.2.2.isNone = true then (some (bt149.1 == 3221225472)) else (some false)) else (some false)) else (some false))) = some r := H
  have A1 := Aside0.mk A10
  clear A10
  obtain ⟨y146, hy146⟩ : ∃ y_ : List Int, y_ = (([2147483648, 33] : List Int)) := ⟨_, rfl⟩
  replace H : ((num_Eval.f k 117 y146).bind fun bt149 => (if t145.isNone = true then (if t144 = 3 then (if bt149.2.2.isNone = true then (some (bt149.1 == 3221225472)) else (some false)) else (some false)) else (some false))) = some r := by first | (rw [hy146]; with_reducible exact H) | (have H2_ := (Option.bind_some _ _).symm.trans H; rw [hy146]; with_reducible exact H2_) | (have H2_ := (Option.bind_some _ _).symm.trans H; with_reducible exact H2_) | with_reducible exact H | (rw [hy146]; exact H) | exact H
  have Ny146 := Aside0.mk hy146
  clear hy146
  replace H := Option.bind_eq_some_iff.mp H
  obtain ⟨⟨t149, t150, t151⟩, A20, H⟩ := H
  replace H : (if t145.isNone = true then (if t144 = 3 then (if t151.isNone = true then (some (t149 == 3221225472)) else (some false)) else (some false)) else (some false)) = some r := H
  have A2 := Aside0.mk A20
  clear A20
  rcases t145 with _ | q152
  · have H1 : (if t144 = 3 then (if t151.isNone = true then (some (t149 == 3221225472)) else (some false)) else (some false)) = some r := by rw [if_pos (show (none : Option Int).isNone = true by rfl)] at H; exact H
    clear H
    have H := H1
    clear H1
    try simp only [errW_none, errW_some]
    by_cases c3 : t144 = 3
    · rw [if_pos c3] at H
      have c3b0 : (t144 == 3) = true := beq_iff_eq.mpr c3
      have c3b1 : (t144 != 3) = false := bne_eq_false_iff_eq.mpr c3
      clear c3
      rcases t151 with _ | q153
      · have H1 : (some (t149 == 3221225472)) = some r := by rw [if_pos (show (none : Option Int).isNone = true by rfl)] at H; exact H
        clear H
        have H := H1
        clear H1
        try simp only [errW_none, errW_some]
        obtain rfl := Option.some.inj H
        go_enter Tryd.func10, Tryd.ntmps10
        go_wp2_with (first | ((with_reducible refine gate_dst (N := 8) rfl ?_); refine Kd.R_lit (Kd.int .u64) _ 28 ?hg (N := 8) ?hd (xs := ([2147483648, 4294967295] : List Int)) (inner := [.int .u64 2147483648, .int .u64 4294967295]) (ok := fun _ => True) (okp := fun _ => True) ?hr ?hp (fun _ hk => hk) trivial (Below.refl _ _) (Nat.le_refl _) (by simp) ?_; (case hd => rfl); (case hg => rfl); (case hr => first | (go_simp; done) | (go_simp; rfl)); (case hp => exact (Reps.one (show Kd.M (Kd.int .u64) _ _ _ 2147483648 [.int .u64 2147483648] from rfl) (Reps.one (show Kd.M (Kd.int .u64) _ _ _ 4294967295 [.int .u64 4294967295] from rfl) (Reps.none _ _)))); intro v141 w4 ho5 hb hg_ hnew_; clear hg_ hnew_; (first | rw [← Ny140.out] at ho5 | (simp only [Int.reduceToNat] at ho5; rw [← Ny140.out] at ho5)); have n0_ := Aside0.mk (Kd.R_lower ho5 (below_size (by repeat (first | (with_reducible first | exact HB.out | apply below_alloc | apply pw_below_drewN | apply below_drew1) | exact HB.out)))); have n1_ := Aside0.mk (below_step (by repeat (first | (with_reducible first | exact HB.out | apply below_alloc | apply pw_below_drewN | apply below_drew1) | exact HB.out)) hb); clear HB; have HO142 := n0_; have HB := n1_; clear n0_ n1_; clear hb ho5; obtain ⟨Ao6, co6, eo6⟩ := Kd.R_slice HO142.out; subst eo6) | ((with_reducible refine gate_callee (f := 13) rfl ?_); refine goesL_ (some 9) rfl rfl Tryd.func13 (by kernel_rfl) rfl #[.int .i64 109, .slice Ao6 y140.length co6] rfl (by (try simp only [List.map_toArray, List.map_cons, List.map_nil]); first | done | rfl | (simp only [List.length_drop, List.length_take]; rfl)) ?_; (with_reducible refine (num_Eval.calls k 109 _ _ y140 t143 t144 none _ (GL_at HGL.out (by repeat (first | (with_reducible first | exact HB.out | apply below_alloc | apply pw_below_drewN | apply below_drew1) | exact HB.out))) ?side1 ?side2 A1.out).mono ?_); (case side1 => repeat (first | exact (Kd.R_reads' HO142.out).2.2 | (with_reducible refine Kd.C_alloc ?_ _) | (with_reducible refine Kd.C_drewN ?_ _) | (with_reducible refine Kd.C_drew ?_))); (case side2 => exact (Kd.R_reads' HO142.out).2.1); rintro e w7 ⟨rfl, hb⟩; refine ⟨_, rfl, ?_⟩; have n0_ := Aside0.mk (Kd.R_below (by (with_reducible repeat (first | apply Kd.R_alloc | apply Kd.R_drewN | apply Kd.R_drew)); exact HO142.out) hb); have n1_ := Aside0.mk (below_step (by repeat (first | (with_reducible first | exact HB.out | apply below_alloc | apply pw_below_drewN | apply below_drew1) | exact HB.out)) hb); clear HO142; clear HB; have HO142 := n0_; have HB := n1_; clear n0_ n1_; (try clear hb); (try clear hb2); (try clear hk); (try clear hi); (try simp only [errW_none, errW_some])) | ((with_reducible refine gate_dst (N := 14) rfl ?_); refine Kd.R_lit (Kd.int .u64) _ 28 ?hg (N := 14) ?hd (xs := ([2147483648, 33] : List Int)) (inner := [.int .u64 2147483648, .int .u64 33]) (ok := fun _ => True) (okp := fun _ => True) ?hr ?hp (fun _ hk => hk) trivial (Below.refl _ _) (Nat.le_refl _) (by simp) ?_; (case hd => rfl); (case hg => rfl); (case hr => first | (go_simp; done) | (go_simp; rfl)); (case hp => exact (Reps.one (show Kd.M (Kd.int .u64) _ _ _ 2147483648 [.int .u64 2147483648] from rfl) (Reps.one (show Kd.M (Kd.int .u64) _ _ _ 33 [.int .u64 33] from rfl) (Reps.none _ _)))); intro v147 w8 ho9 hb hg_ hnew_; clear hg_ hnew_; (first | rw [← Ny146.out] at ho9 | (simp only [Int.reduceToNat] at ho9; rw [← Ny146.out] at ho9)); have n0_ := Aside0.mk (Kd.R_elder' (by (with_reducible repeat (first | apply Kd.R_alloc | apply Kd.R_drewN | apply Kd.R_drew)); exact HO142.out) (Kd.R_base ho9) hb); have n1_ := Aside0.mk (Kd.R_lower (Kd.R_new' ho9 (Kd.R_lt (by (with_reducible repeat (first | apply Kd.R_alloc | apply Kd.R_drewN | apply Kd.R_drew)); exact HO142.out))) (below_size (by repeat (first | (with_reducible first | exact HB.out | apply below_alloc | apply pw_below_drewN | apply below_drew1) | exact HB.out)))); have n2_ := Aside0.mk (below_step (by repeat (first | (with_reducible first | exact HB.out | apply below_alloc | apply pw_below_drewN | apply below_drew1) | exact HB.out)) hb); clear HO142; clear HB; have HO142 := n0_; have HO148 := n1_; have HB := n2_; clear n0_ n1_ n2_; clear hb ho9; obtain ⟨Ao10, co10, eo10⟩ := Kd.R_slice HO148.out; subst eo10) | ((with_reducible refine gate_callee (f := 13) rfl ?_); refine goesL_ (some 15) rfl rfl Tryd.func13 (by kernel_rfl) rfl #[.int .i64 117, .slice Ao10 y146.length co10] rfl (by (try simp only [List.map_toArray, List.map_cons, List.map_nil]); first | done | rfl | (simp only [List.length_drop, List.length_take]; rfl)) ?_; (with_reducible refine (num_Eval.calls k 117 _ _ y146 t149 t150 none _ (GL_at HGL.out (by repeat (first | (with_reducible first | exact HB.out | apply below_alloc | apply pw_below_drewN | apply below_drew1) | exact HB.out))) ?side1 ?side2 A2.out).mono ?_); (case side1 => repeat (first | exact (Kd.R_reads' HO148.out).2.2 | (with_reducible refine Kd.C_alloc ?_ _) | (with_reducible refine Kd.C_drewN ?_ _) | (with_reducible refine Kd.C_drew ?_))); (case side2 => exact (Kd.R_reads' HO148.out).2.1); rintro e w11 ⟨rfl, hb⟩; refine ⟨_, rfl, ?_⟩; have n0_ := Aside0.mk (Kd.R_below (by (with_reducible repeat (first | apply Kd.R_alloc | apply Kd.R_drewN | apply Kd.R_drew)); exact HO142.out) hb); have n1_ := Aside0.mk (Kd.R_below (by (with_reducible repeat (first | apply Kd.R_alloc | apply Kd.R_drewN | apply Kd.R_drew)); exact HO148.out) hb); have n2_ := Aside0.mk (below_step (by repeat (first | (with_reducible first | exact HB.out | apply below_alloc | apply pw_below_drewN | apply below_drew1) | exact HB.out)) hb); clear HO142; clear HO148; clear HB; have HO142 := n0_; have HO148 := n1_; have HB := n2_; clear n0_ n1_ n2_; (try clear hb); (try clear hb2); (try clear hk); (try clear hi); (try simp only [errW_none, errW_some])))
        go_ret
        exact ⟨by first | rfl | (simp [errW_none, errW_some] <;> rfl) | (simp [*, errW_none, errW_some] <;> rfl), by repeat (first | (with_reducible first | exact HB.out | apply below_alloc | apply pw_below_drewN | apply below_drew1) | exact HB.out)⟩
      · have H1 : (some false) = some r := by rw [if_neg (show ¬ (some q153).isNone = true by simp)] at H; exact H
        clear H
        have H := H1
        clear H1
        try simp only [errW_none, errW_some]
        obtain rfl := Option.some.inj H
        go_enter Tryd.func10, Tryd.ntmps10
        go_wp2_with (first | ((with_reducible refine gate_dst (N := 8) rfl ?_); refine Kd.R_lit (Kd.int .u64) _ 28 ?hg (N := 8) ?hd (xs := ([2147483648, 4294967295] : List Int)) (inner := [.int .u64 2147483648, .int .u64 4294967295]) (ok := fun _ => True) (okp := fun _ => True) ?hr ?hp (fun _ hk => hk) trivial (Below.refl _ _) (Nat.le_refl _) (by simp) ?_; (case hd => rfl); (case hg => rfl); (case hr => first | (go_simp; done) | (go_simp; rfl)); (case hp => exact (Reps.one (show Kd.M (Kd.int .u64) _ _ _ 2147483648 [.int .u64 2147483648] from rfl) (Reps.one (show Kd.M (Kd.int .u64) _ _ _ 4294967295 [.int .u64 4294967295] from rfl) (Reps.none _ _)))); intro v141 w12 ho13 hb hg_ hnew_; clear hg_ hnew_; (first | rw [← Ny140.out] at ho13 | (simp only [Int.reduceToNat] at ho13; rw [← Ny140.out] at ho13)); have n0_ := Aside0.mk (Kd.R_lower ho13 (below_size (by repeat (first | (with_reducible first | exact HB.out | apply below_alloc | apply pw_below_drewN | apply below_drew1) | exact HB.out)))); have n1_ := Aside0.mk (below_step (by repeat (first | (with_reducible first | exact HB.out | apply below_alloc | apply pw_below_drewN | apply below_drew1) | exact HB.out)) hb); clear HB; have HO142 := n0_; have HB := n1_; clear n0_ n1_; clear hb ho13; obtain ⟨Ao14, co14, eo14⟩ := Kd.R_slice HO142.out; subst eo14) | ((with_reducible refine gate_callee (f := 13) rfl ?_); refine goesL_ (some 9) rfl rfl Tryd.func13 (by kernel_rfl) rfl #[.int .i64 109, .slice Ao14 y140.length co14] rfl (by (try simp only [List.map_toArray, List.map_cons, List.map_nil]); first | done | rfl | (simp only [List.length_drop, List.length_take]; rfl)) ?_; (with_reducible refine (num_Eval.calls k 109 _ _ y140 t143 t144 none _ (GL_at HGL.out (by repeat (first | (with_reducible first | exact HB.out | apply below_alloc | apply pw_below_drewN | apply below_drew1) | exact HB.out))) ?side1 ?side2 A1.out).mono ?_); (case side1 => repeat (first | exact (Kd.R_reads' HO142.out).2.2 | (with_reducible refine Kd.C_alloc ?_ _) | (with_reducible refine Kd.C_drewN ?_ _) | (with_reducible refine Kd.C_drew ?_))); (case side2 => exact (Kd.R_reads' HO142.out).2.1); rintro e w15 ⟨rfl, hb⟩; refine ⟨_, rfl, ?_⟩; have n0_ := Aside0.mk (Kd.R_below (by (with_reducible repeat (first | apply Kd.R_alloc | apply Kd.R_drewN | apply Kd.R_drew)); exact HO142.out) hb); have n1_ := Aside0.mk (below_step (by repeat (first | (with_reducible first | exact HB.out | apply below_alloc | apply pw_below_drewN | apply below_drew1) | exact HB.out)) hb); clear HO142; clear HB; have HO142 := n0_; have HB := n1_; clear n0_ n1_; (try clear hb); (try clear hb2); (try clear hk); (try clear hi); (try simp only [errW_none, errW_some])) | ((with_reducible refine gate_dst (N := 14) rfl ?_); refine Kd.R_lit (Kd.int .u64) _ 28 ?hg (N := 14) ?hd (xs := ([2147483648, 33] : List Int)) (inner := [.int .u64 2147483648, .int .u64 33]) (ok := fun _ => True) (okp := fun _ => True) ?hr ?hp (fun _ hk => hk) trivial (Below.refl _ _) (Nat.le_refl _) (by simp) ?_; (case hd => rfl); (case hg => rfl); (case hr => first | (go_simp; done) | (go_simp; rfl)); (case hp => exact (Reps.one (show Kd.M (Kd.int .u64) _ _ _ 2147483648 [.int .u64 2147483648] from rfl) (Reps.one (show Kd.M (Kd.int .u64) _ _ _ 33 [.int .u64 33] from rfl) (Reps.none _ _)))); intro v147 w16 ho17 hb hg_ hnew_; clear hg_ hnew_; (first | rw [← Ny146.out] at ho17 | (simp only [Int.reduceToNat] at ho17; rw [← Ny146.out] at ho17)); have n0_ := Aside0.mk (Kd.R_elder' (by (with_reducible repeat (first | apply Kd.R_alloc | apply Kd.R_drewN | apply Kd.R_drew)); exact HO142.out) (Kd.R_base ho17) hb); have n1_ := Aside0.mk (Kd.R_lower (Kd.R_new' ho17 (Kd.R_lt (by (with_reducible repeat (first | apply Kd.R_alloc | apply Kd.R_drewN | apply Kd.R_drew)); exact HO142.out))) (below_size (by repeat (first | (with_reducible first | exact HB.out | apply below_alloc | apply pw_below_drewN | apply below_drew1) | exact HB.out)))); have n2_ := Aside0.mk (below_step (by repeat (first | (with_reducible first | exact HB.out | apply below_alloc | apply pw_below_drewN | apply below_drew1) | exact HB.out)) hb); clear HO142; clear HB; have HO142 := n0_; have HO148 := n1_; have HB := n2_; clear n0_ n1_ n2_; clear hb ho17; obtain ⟨Ao18, co18, eo18⟩ := Kd.R_slice HO148.out; subst eo18) | ((with_reducible refine gate_callee (f := 13) rfl ?_); refine goesL_ (some 15) rfl rfl Tryd.func13 (by kernel_rfl) rfl #[.int .i64 117, .slice Ao18 y146.length co18] rfl (by (try simp only [List.map_toArray, List.map_cons, List.map_nil]); first | done | rfl | (simp only [List.length_drop, List.length_take]; rfl)) ?_; (with_reducible refine (num_Eval.calls k 117 _ _ y146 t149 t150 (some q153) _ (GL_at HGL.out (by repeat (first | (with_reducible first | exact HB.out | apply below_alloc | apply pw_below_drewN | apply below_drew1) | exact HB.out))) ?side1 ?side2 A2.out).mono ?_); (case side1 => repeat (first | exact (Kd.R_reads' HO148.out).2.2 | (with_reducible refine Kd.C_alloc ?_ _) | (with_reducible refine Kd.C_drewN ?_ _) | (with_reducible refine Kd.C_drew ?_))); (case side2 => exact (Kd.R_reads' HO148.out).2.1); rintro e w19 ⟨rfl, hb⟩; refine ⟨_, rfl, ?_⟩; have n0_ := Aside0.mk (Kd.R_below (by (with_reducible repeat (first | apply Kd.R_alloc | apply Kd.R_drewN | apply Kd.R_drew)); exact HO142.out) hb); have n1_ := Aside0.mk (Kd.R_below (by (with_reducible repeat (first | apply Kd.R_alloc | apply Kd.R_drewN | apply Kd.R_drew)); exact HO148.out) hb); have n2_ := Aside0.mk (below_step (by repeat (first | (with_reducible first | exact HB.out | apply below_alloc | apply pw_below_drewN | apply below_drew1) | exact HB.out)) hb); clear HO142; clear HO148; clear HB; have HO142 := n0_; have HO148 := n1_; have HB := n2_; clear n0_ n1_ n2_; (try clear hb); (try clear hb2); (try clear hk); (try clear hi); (try simp only [errW_none, errW_some])))
        go_ret
        exact ⟨by first | rfl | (simp [errW_none, errW_some] <;> rfl) | (simp [*, errW_none, errW_some] <;> rfl), by repeat (first | (with_reducible first | exact HB.out | apply below_alloc | apply pw_below_drewN | apply below_drew1) | exact HB.out)⟩
    · rw [if_neg c3] at H
      have c3b0 : (t144 == 3) = false := beq_eq_false_iff_ne.mpr c3
      have c3b1 : (t144 != 3) = true := bne_iff_ne.mpr c3
      obtain rfl := Option.some.inj H
      go_enter Tryd.func10, Tryd.ntmps10
      go_wp2_with (first | ((with_reducible refine gate_dst (N := 8) rfl ?_); refine Kd.R_lit (Kd.int .u64) _ 28 ?hg (N := 8) ?hd (xs := ([2147483648, 4294967295] : List Int)) (inner := [.int .u64 2147483648, .int .u64 4294967295]) (ok := fun _ => True) (okp := fun _ => True) ?hr ?hp (fun _ hk => hk) trivial (Below.refl _ _) (Nat.le_refl _) (by simp) ?_; (case hd => rfl); (case hg => rfl); (case hr => first | (go_simp; done) | (go_simp; rfl)); (case hp => exact (Reps.one (show Kd.M (Kd.int .u64) _ _ _ 2147483648 [.int .u64 2147483648] from rfl) (Reps.one (show Kd.M (Kd.int .u64) _ _ _ 4294967295 [.int .u64 4294967295] from rfl) (Reps.none _ _)))); intro v141 w20 ho21 hb hg_ hnew_; clear hg_ hnew_; (first | rw [← Ny140.out] at ho21 | (simp only [Int.reduceToNat] at ho21; rw [← Ny140.out] at ho21)); have n0_ := Aside0.mk (Kd.R_lower ho21 (below_size (by repeat (first | (with_reducible first | exact HB.out | apply below_alloc | apply pw_below_drewN | apply below_drew1) | exact HB.out)))); have n1_ := Aside0.mk (below_step (by repeat (first | (with_reducible first | exact HB.out | apply below_alloc | apply pw_below_drewN | apply below_drew1) | exact HB.out)) hb); clear HB; have HO142 := n0_; have HB := n1_; clear n0_ n1_; clear hb ho21; obtain ⟨Ao22, co22, eo22⟩ := Kd.R_slice HO142.out; subst eo22) | ((with_reducible refine gate_callee (f := 13) rfl ?_); refine goesL_ (some 9) rfl rfl Tryd.func13 (by kernel_rfl) rfl #[.int .i64 109, .slice Ao22 y140.length co22] rfl (by (try simp only [List.map_toArray, List.map_cons, List.map_nil]); first | done | rfl | (simp only [List.length_drop, List.length_take]; rfl)) ?_; (with_reducible refine (num_Eval.calls k 109 _ _ y140 t143 t144 none _ (GL_at HGL.out (by repeat (first | (with_reducible first | exact HB.out | apply below_alloc | apply pw_below_drewN | apply below_drew1) | exact HB.out))) ?side1 ?side2 A1.out).mono ?_); (case side1 => repeat (first | exact (Kd.R_reads' HO142.out).2.2 | (with_reducible refine Kd.C_alloc ?_ _) | (with_reducible refine Kd.C_drewN ?_ _) | (with_reducible refine Kd.C_drew ?_))); (case side2 => exact (Kd.R_reads' HO142.out).2.1); rintro e w23 ⟨rfl, hb⟩; refine ⟨_, rfl, ?_⟩; have n0_ := Aside0.mk (Kd.R_below (by (with_reducible repeat (first | apply Kd.R_alloc | apply Kd.R_drewN | apply Kd.R_drew)); exact HO142.out) hb); have n1_ := Aside0.mk (below_step (by repeat (first | (with_reducible first | exact HB.out | apply below_alloc | apply pw_below_drewN | apply below_drew1) | exact HB.out)) hb); clear HO142; clear HB; have HO142 := n0_; have HB := n1_; clear n0_ n1_; (try clear hb); (try clear hb2); (try clear hk); (try clear hi); (try simp only [errW_none, errW_some])) | ((with_reducible refine gate_dst (N := 14) rfl ?_); refine Kd.R_lit (Kd.int .u64) _ 28 ?hg (N := 14) ?hd (xs := ([2147483648, 33] : List Int)) (inner := [.int .u64 2147483648, .int .u64 33]) (ok := fun _ => True) (okp := fun _ => True) ?hr ?hp (fun _ hk => hk) trivial (Below.refl _ _) (Nat.le_refl _) (by simp) ?_; (case hd => rfl); (case hg => rfl); (case hr => first | (go_simp; done) | (go_simp; rfl)); (case hp => exact (Reps.one (show Kd.M (Kd.int .u64) _ _ _ 2147483648 [.int .u64 2147483648] from rfl) (Reps.one (show Kd.M (Kd.int .u64) _ _ _ 33 [.int .u64 33] from rfl) (Reps.none _ _)))); intro v147 w24 ho25 hb hg_ hnew_; clear hg_ hnew_; (first | rw [← Ny146.out] at ho25 | (simp only [Int.reduceToNat] at ho25; rw [← Ny146.out] at ho25)); have n0_ := Aside0.mk (Kd.R_elder' (by (with_reducible repeat (first | apply Kd.R_alloc | apply Kd.R_drewN | apply Kd.R_drew)); exact HO142.out) (Kd.R_base ho25) hb); have n1_ := Aside0.mk (Kd.R_lower (Kd.R_new' ho25 (Kd.R_lt (by (with_reducible repeat (first | apply Kd.R_alloc | apply Kd.R_drewN | apply Kd.R_drew)); exact HO142.out))) (below_size (by repeat (first | (with_reducible first | exact HB.out | apply below_alloc | apply pw_below_drewN | apply below_drew1) | exact HB.out)))); have n2_ := Aside0.mk (below_step (by repeat (first | (with_reducible first | exact HB.out | apply below_alloc | apply pw_below_drewN | apply below_drew1) | exact HB.out)) hb); clear HO142; clear HB; have HO142 := n0_; have HO148 := n1_; have HB := n2_; clear n0_ n1_ n2_; clear hb ho25; obtain ⟨Ao26, co26, eo26⟩ := Kd.R_slice HO148.out; subst eo26) | ((with_reducible refine gate_callee (f := 13) rfl ?_); refine goesL_ (some 15) rfl rfl Tryd.func13 (by kernel_rfl) rfl #[.int .i64 117, .slice Ao26 y146.length co26] rfl (by (try simp only [List.map_toArray, List.map_cons, List.map_nil]); first | done | rfl | (simp only [List.length_drop, List.length_take]; rfl)) ?_; (with_reducible refine (num_Eval.calls k 117 _ _ y146 t149 t150 t151 _ (GL_at HGL.out (by repeat (first | (with_reducible first | exact HB.out | apply below_alloc | apply pw_below_drewN | apply below_drew1) | exact HB.out))) ?side1 ?side2 A2.out).mono ?_); (case side1 => repeat (first | exact (Kd.R_reads' HO148.out).2.2 | (with_reducible refine Kd.C_alloc ?_ _) | (with_reducible refine Kd.C_drewN ?_ _) | (with_reducible refine Kd.C_drew ?_))); (case side2 => exact (Kd.R_reads' HO148.out).2.1); rintro e w27 ⟨rfl, hb⟩; refine ⟨_, rfl, ?_⟩; have n0_ := Aside0.mk (Kd.R_below (by (with_reducible repeat (first | apply Kd.R_alloc | apply Kd.R_drewN | apply Kd.R_drew)); exact HO142.out) hb); have n1_ := Aside0.mk (Kd.R_below (by (with_reducible repeat (first | apply Kd.R_alloc | apply Kd.R_drewN | apply Kd.R_drew)); exact HO148.out) hb); have n2_ := Aside0.mk (below_step (by repeat (first | (with_reducible first | exact HB.out | apply below_alloc | apply pw_below_drewN | apply below_drew1) | exact HB.out)) hb); clear HO142; clear HO148; clear HB; have HO142 := n0_; have HO148 := n1_; have HB := n2_; clear n0_ n1_ n2_; (try clear hb); (try clear hb2); (try clear hk); (try clear hi); (try simp only [errW_none, errW_some])))
      go_ret
      exact ⟨by first | rfl | (simp [errW_none, errW_some] <;> rfl) | (simp [*, errW_none, errW_some] <;> rfl), by repeat (first | (with_reducible first | exact HB.out | apply below_alloc | apply pw_below_drewN | apply below_drew1) | exact HB.out)⟩
  · have H1 : (some false) = some r := by rw [if_neg (show ¬ (some q152).isNone = true by simp)] at H; exact H
    clear H
    have H := H1
    clear H1
    try simp only [errW_none, errW_some]
    obtain rfl := Option.some.inj H
    go_enter Tryd.func10, Tryd.ntmps10
    go_wp2_with (first | ((with_reducible refine gate_dst (N := 8) rfl ?_); refine Kd.R_lit (Kd.int .u64) _ 28 ?hg (N := 8) ?hd (xs := ([2147483648, 4294967295] : List Int)) (inner := [.int .u64 2147483648, .int .u64 4294967295]) (ok := fun _ => True) (okp := fun _ => True) ?hr ?hp (fun _ hk => hk) trivial (Below.refl _ _) (Nat.le_refl _) (by simp) ?_; (case hd => rfl); (case hg => rfl); (case hr => first | (go_simp; done) | (go_simp; rfl)); (case hp => exact (Reps.one (show Kd.M (Kd.int .u64) _ _ _ 2147483648 [.int .u64 2147483648] from rfl) (Reps.one (show Kd.M (Kd.int .u64) _ _ _ 4294967295 [.int .u64 4294967295] from rfl) (Reps.none _ _)))); intro v141 w28 ho29 hb hg_ hnew_; clear hg_ hnew_; (first | rw [← Ny140.out] at ho29 | (simp only [Int.reduceToNat] at ho29; rw [← Ny140.out] at ho29)); have n0_ := Aside0.mk (Kd.R_lower ho29 (below_size (by repeat (first | (with_reducible first | exact HB.out | apply below_alloc | apply pw_below_drewN | apply below_drew1) | exact HB.out)))); have n1_ := Aside0.mk (below_step (by repeat (first | (with_reducible first | exact HB.out | apply below_alloc | apply pw_below_drewN | apply below_drew1) | exact HB.out)) hb); clear HB; have HO142 := n0_; have HB := n1_; clear n0_ n1_; clear hb ho29; obtain ⟨Ao30, co30, eo30⟩ := Kd.R_slice HO142.out; subst eo30) | ((with_reducible refine gate_callee (f := 13) rfl ?_); refine goesL_ (some 9) rfl rfl Tryd.func13 (by kernel_rfl) rfl #[.int .i64 109, .slice Ao30 y140.length co30] rfl (by (try simp only [List.map_toArray, List.map_cons, List.map_nil]); first | done | rfl | (simp only [List.length_drop, List.length_take]; rfl)) ?_; (with_reducible refine (num_Eval.calls k 109 _ _ y140 t143 t144 (some q152) _ (GL_at HGL.out (by repeat (first | (with_reducible first | exact HB.out | apply below_alloc | apply pw_below_drewN | apply below_drew1) | exact HB.out))) ?side1 ?side2 A1.out).mono ?_); (case side1 => repeat (first | exact (Kd.R_reads' HO142.out).2.2 | (with_reducible refine Kd.C_alloc ?_ _) | (with_reducible refine Kd.C_drewN ?_ _) | (with_reducible refine Kd.C_drew ?_))); (case side2 => exact (Kd.R_reads' HO142.out).2.1); rintro e w31 ⟨rfl, hb⟩; refine ⟨_, rfl, ?_⟩; have n0_ := Aside0.mk (Kd.R_below (by (with_reducible repeat (first | apply Kd.R_alloc | apply Kd.R_drewN | apply Kd.R_drew)); exact HO142.out) hb); have n1_ := Aside0.mk (below_step (by repeat (first | (with_reducible first | exact HB.out | apply below_alloc | apply pw_below_drewN | apply below_drew1) | exact HB.out)) hb); clear HO142; clear HB; have HO142 := n0_; have HB := n1_; clear n0_ n1_; (try clear hb); (try clear hb2); (try clear hk); (try clear hi); (try simp only [errW_none, errW_some])) | ((with_reducible refine gate_dst (N := 14) rfl ?_); refine Kd.R_lit (Kd.int .u64) _ 28 ?hg (N := 14) ?hd (xs := ([2147483648, 33] : List Int)) (inner := [.int .u64 2147483648, .int .u64 33]) (ok := fun _ => True) (okp := fun _ => True) ?hr ?hp (fun _ hk => hk) trivial (Below.refl _ _) (Nat.le_refl _) (by simp) ?_; (case hd => rfl); (case hg => rfl); (case hr => first | (go_simp; done) | (go_simp; rfl)); (case hp => exact (Reps.one (show Kd.M (Kd.int .u64) _ _ _ 2147483648 [.int .u64 2147483648] from rfl) (Reps.one (show Kd.M (Kd.int .u64) _ _ _ 33 [.int .u64 33] from rfl) (Reps.none _ _)))); intro v147 w32 ho33 hb hg_ hnew_; clear hg_ hnew_; (first | rw [← Ny146.out] at ho33 | (simp only [Int.reduceToNat] at ho33; rw [← Ny146.out] at ho33)); have n0_ := Aside0.mk (Kd.R_elder' (by (with_reducible repeat (first | apply Kd.R_alloc | apply Kd.R_drewN | apply Kd.R_drew)); exact HO142.out) (Kd.R_base ho33) hb); have n1_ := Aside0.mk (Kd.R_lower (Kd.R_new' ho33 (Kd.R_lt (by (with_reducible repeat (first | apply Kd.R_alloc | apply Kd.R_drewN | apply Kd.R_drew)); exact HO142.out))) (below_size (by repeat (first | (with_reducible first | exact HB.out | apply below_alloc | apply pw_below_drewN | apply below_drew1) | exact HB.out)))); have n2_ := Aside0.mk (below_step (by repeat (first | (with_reducible first | exact HB.out | apply below_alloc | apply pw_below_drewN | apply below_drew1) | exact HB.out)) hb); clear HO142; clear HB; have HO142 := n0_; have HO148 := n1_; have HB := n2_; clear n0_ n1_ n2_; clear hb ho33; obtain ⟨Ao34, co34, eo34⟩ := Kd.R_slice HO148.out; subst eo34) | ((with_reducible refine gate_callee (f := 13) rfl ?_); refine goesL_ (some 15) rfl rfl Tryd.func13 (by kernel_rfl) rfl #[.int .i64 117, .slice Ao34 y146.length co34] rfl (by (try simp only [List.map_toArray, List.map_cons, List.map_nil]); first | done | rfl | (simp only [List.length_drop, List.length_take]; rfl)) ?_; (with_reducible refine (num_Eval.calls k 117 _ _ y146 t149 t150 t151 _ (GL_at HGL.out (by repeat (first | (with_reducible first | exact HB.out | apply below_alloc | apply pw_below_drewN | apply below_drew1) | exact HB.out))) ?side1 ?side2 A2.out).mono ?_); (case side1 => repeat (first | exact (Kd.R_reads' HO148.out).2.2 | (with_reducible refine Kd.C_alloc ?_ _) | (with_reducible refine Kd.C_drewN ?_ _) | (with_reducible refine Kd.C_drew ?_))); (case side2 => exact (Kd.R_reads' HO148.out).2.1); rintro e w35 ⟨rfl, hb⟩; refine ⟨_, rfl, ?_⟩; have n0_ := Aside0.mk (Kd.R_below (by (with_reducible repeat (first | apply Kd.R_alloc | apply Kd.R_drewN | apply Kd.R_drew)); exact HO142.out) hb); have n1_ := Aside0.mk (Kd.R_below (by (with_reducible repeat (first | apply Kd.R_alloc | apply Kd.R_drewN | apply Kd.R_drew)); exact HO148.out) hb); have n2_ := Aside0.mk (below_step (by repeat (first | (with_reducible first | exact HB.out | apply below_alloc | apply pw_below_drewN | apply below_drew1) | exact HB.out)) hb); clear HO142; clear HO148; clear HB; have HO142 := n0_; have HO148 := n1_; have HB := n2_; clear n0_ n1_ n2_; (try clear hb); (try clear hb2); (try clear hk); (try clear hi); (try simp only [errW_none, errW_some])))
    go_ret
    exact ⟨by first | rfl | (simp [errW_none, errW_some] <;> rfl) | (simp [*, errW_none, errW_some] <;> rfl), by repeat (first | (with_reducible first | exact HB.out | apply below_alloc | apply pw_below_drewN | apply below_drew1) | exact HB.out)⟩

/-! ### grommetref03_Args: function 12 -/
def grommetref03_Args.j0 : Nat → Int → Bool → Option (Int)
  | 0, _, _ => none
  | k + 1, x0, x36 => if x36 = true then (some 1) else (if x0 ≥ 70 then (if x0 ≤ 79 then (some 2) else (if x0 ≥ 81 then (if x0 ≤ 90 then (some 2) else (if x0 ≥ 106 then (if x0 ≤ 120 then (some 2) else (if x0 ≥ 124 then (if x0 ≤ 138 then (some 2) else (some (-1))) else (some (-1)))) else (if x0 ≥ 124 then (if x0 ≤ 138 then (some 2) else (some (-1))) else (some (-1))))) else (if x0 ≥ 106 then (if x0 ≤ 120 then (some 2) else (if x0 ≥ 124 then (if x0 ≤ 138 then (some 2) else (some (-1))) else (some (-1)))) else (if x0 ≥ 124 then (if x0 ≤ 138 then (some 2) else (some (-1))) else (some (-1)))))) else (if x0 ≥ 81 then (if x0 ≤ 90 then (some 2) else (if x0 ≥ 106 then (if x0 ≤ 120 then (some 2) else (if x0 ≥ 124 then (if x0 ≤ 138 then (some 2) else (some (-1))) else (some (-1)))) else (if x0 ≥ 124 then (if x0 ≤ 138 then (some 2) else (some (-1))) else (some (-1))))) else (if x0 ≥ 106 then (if x0 ≤ 120 then (some 2) else (if x0 ≥ 124 then (if x0 ≤ 138 then (some 2) else (some (-1))) else (some (-1)))) else (if x0 ≥ 124 then (if x0 ≤ 138 then (some 2) else (some (-1))) else (some (-1))))))
def grommetref03_Args.f (k : Nat) (a0 : Int) : Option (Int) := if a0 = 69 then (grommetref03_Args.j0 k a0 true) else (if a0 = 80 then (grommetref03_Args.j0 k a0 true) else (if a0 ≥ 103 then (if a0 ≤ 105 then (grommetref03_Args.j0 k a0 true) else (if a0 ≥ 121 then (if a0 ≤ 123 then (grommetref03_Args.j0 k a0 true) else (if a0 = 167 then (grommetref03_Args.j0 k a0 true) else (if a0 = 172 then (grommetref03_Args.j0 k a0 true) else (grommetref03_Args.j0 k a0 (a0 == 173))))) else (if a0 = 167 then (grommetref03_Args.j0 k a0 true) else (if a0 = 172 then (grommetref03_Args.j0 k a0 true) else (grommetref03_Args.j0 k a0 (a0 == 173)))))) else (if a0 ≥ 121 then (if a0 ≤ 123 then (grommetref03_Args.j0 k a0 true) else (if a0 = 167 then (grommetref03_Args.j0 k a0 true) else (if a0 = 172 then (grommetref03_Args.j0 k a0 true) else (grommetref03_Args.j0 k a0 (a0 == 173))))) else (if a0 = 167 then (grommetref03_Args.j0 k a0 true) else (if a0 = 172 then (grommetref03_Args.j0 k a0 true) else (grommetref03_Args.j0 k a0 (a0 == 173)))))))
theorem grommetref03_Args.mono_l : ∀ k, (∀ y0 y1, LeO (grommetref03_Args.j0 k y0 y1) (grommetref03_Args.j0 (k + 1) y0 y1))
  | 0 => fun _ _ r h => by simp [grommetref03_Args.j0] at h
  | k + 1 => by
    have ih0 := grommetref03_Args.mono_l k
    · intro y0 y1
      unfold grommetref03_Args.j0
      repeat' first
      | (with_reducible exact ih0 _ _)
      | (with_reducible exact LeO.refl _)
      | (with_reducible exact LeO.none _)
      | (with_reducible refine LeO.ite ?_ ?_)
      | (with_reducible refine LeO.bind ?_ (fun _ => ?_))
      | exact ih0 _ _
      | exact LeO.none _
      | refine LeO.ite ?_ ?_
      | refine LeO.bind ?_ (fun _ => ?_)
theorem grommetref03_Args.mono : ∀ a0 k, LeO (grommetref03_Args.f k a0) (grommetref03_Args.f (k + 1) a0) := by
  intro a0 k
  have ih0 := grommetref03_Args.mono_l k
  unfold grommetref03_Args.f
  repeat' first
      | (with_reducible exact ih0 _ _)
      | (with_reducible exact LeO.refl _)
      | (with_reducible exact LeO.none _)
      | (with_reducible refine LeO.ite ?_ ?_)
      | (with_reducible refine LeO.bind ?_ (fun _ => ?_))
      | exact ih0 _ _
      | exact LeO.none _
      | refine LeO.ite ?_ ?_
      | refine LeO.bind ?_ (fun _ => ?_)
set_option maxHeartbeats 8000000 in
set_option maxRecDepth 100000 in
theorem grommetref03_Args.calls (k : Nat) (a0 : Int) (r : Int) (w : World) (h : grommetref03_Args.f k a0 = some r) :
    Calls Tryd.prog 12 #[.int .i64 a0] w fun e w' => e = .returned (.int .i64 r) ∧ Drawn0 w w' := by
  have H : (if a0 = 69 then (grommetref03_Args.j0 k a0 true) else (if a0 = 80 then (grommetref03_Args.j0 k a0 true) else (if a0 ≥ 103 then (if a0 ≤ 105 then (grommetref03_Args.j0 k a0 true) else (if a0 ≥ 121 then (if a0 ≤ 123 then (grommetref03_Args.j0 k a0 true) else (if a0 = 167 then (grommetref03_Args.j0 k a0 true) else (if a0 = 172 then (grommetref03_Args.j0 k a0 true) else (grommetref03_Args.j0 k a0 (a0 == 173))))) else (if a0 = 167 then (grommetref03_Args.j0 k a0 true) else (if a0 = 172 then (grommetref03_Args.j0 k a0 true) else (grommetref03_Args.j0 k a0 (a0 == 173)))))) else (if a0 ≥ 121 then (if a0 ≤ 123 then (grommetref03_Args.j0 k a0 true) else (if a0 = 167 then (grommetref03_Args.j0 k a0 true) else (if a0 = 172 then (grommetref03_Args.j0 k a0 true) else (grommetref03_Args.j0 k a0 (a0 == 173))))) else (if a0 = 167 then (grommetref03_Args.j0 k a0 true) else (if a0 = 172 then (grommetref03_Args.j0 k a0 true) else (grommetref03_Args.j0 k a0 (a0 == 173)))))))) = some r := h
  clear h
  have HC2 := Aside0.mk H
  clear H
  go_enter Tryd.func12, Tryd.ntmps12
  go_upto_region 1 with (fail)
  go_cut [36] (fun v36 wc => ∃ (kq : Nat) (x36_1 : Bool), v36 = .bool x36_1 ∧ Aside0 (grommetref03_Args.j0 kq a0 x36_1 = some r) ∧ Aside0 (kq ≤ k) ∧ Drawn0 w wc)
  case first =>
    have H := HC2.out
    clear HC2
    by_cases c3 : a0 = 69
    · rw [if_pos c3] at H
      have c3b0 : (a0 == 69) = true := beq_iff_eq.mpr c3
      have c3b1 : (a0 != 69) = false := bne_eq_false_iff_eq.mpr c3
      clear c3
      (first | rw [c3b0] | (simp only [i64_w, i32_w]; rw [c3b0]) | skip)
      have H' := Aside0.mk H
      clear H
      go_wp2
      go_meet
      case rel => exact ⟨_, (true), (by first | rfl | (simp; done) | (simp [*]; done)), H', ⟨by first | omega | exact Nat.le_refl _⟩, by repeat (first | exact Drawn0.refl _ | apply Drawn0.step)⟩
    · rw [if_neg c3] at H
      have c3b0 : (a0 == 69) = false := beq_eq_false_iff_ne.mpr c3
      have c3b1 : (a0 != 69) = true := bne_iff_ne.mpr c3
      (first | rw [c3b0] | (simp only [i64_w, i32_w]; rw [c3b0]) | skip)
      by_cases c4 : a0 = 80
      · rw [if_pos c4] at H
        have c4b0 : (a0 == 80) = true := beq_iff_eq.mpr c4
        have c4b1 : (a0 != 80) = false := bne_eq_false_iff_eq.mpr c4
        clear c4
        have H' := Aside0.mk H
        clear H
        go_wp2
        go_meet
        case rel => exact ⟨_, (true), (by first | rfl | (simp; done) | (simp [*]; done)), H', ⟨by first | omega | exact Nat.le_refl _⟩, by repeat (first | exact Drawn0.refl _ | apply Drawn0.step)⟩
      · rw [if_neg c4] at H
        have c4b0 : (a0 == 80) = false := beq_eq_false_iff_ne.mpr c4
        have c4b1 : (a0 != 80) = true := bne_iff_ne.mpr c4
        by_cases c5 : a0 ≥ 103
        · rw [if_pos c5] at H
          have c5b0 : decide (103 ≤ a0) = true := decide_eq_true c5
          clear c5
          by_cases c6 : a0 ≤ 105
          · rw [if_pos c6] at H
            have c6b0 : decide (a0 ≤ 105) = true := decide_eq_true c6
            clear c6
            have H' := Aside0.mk H
            clear H
            go_wp2
            go_meet
            case rel => exact ⟨_, (true), (by first | rfl | (simp; done) | (simp [*]; done)), H', ⟨by first | omega | exact Nat.le_refl _⟩, by repeat (first | exact Drawn0.refl _ | apply Drawn0.step)⟩
          · rw [if_neg c6] at H
            have c6b0 : decide (a0 ≤ 105) = false := decide_eq_false c6
            clear c6
            by_cases c7 : a0 ≥ 121
            · rw [if_pos c7] at H
              have c7b0 : decide (121 ≤ a0) = true := decide_eq_true c7
              clear c7
              by_cases c8 : a0 ≤ 123
              · rw [if_pos c8] at H
                have c8b0 : decide (a0 ≤ 123) = true := decide_eq_true c8
                clear c8
                have H' := Aside0.mk H
                clear H
                go_wp2
                go_meet
                case rel => exact ⟨_, (true), (by first | rfl | (simp; done) | (simp [*]; done)), H', ⟨by first | omega | exact Nat.le_refl _⟩, by repeat (first | exact Drawn0.refl _ | apply Drawn0.step)⟩
              · rw [if_neg c8] at H
                have c8b0 : decide (a0 ≤ 123) = false := decide_eq_false c8
                clear c8
                by_cases c9 : a0 = 167
                · rw [if_pos c9] at H
                  have c9b0 : (a0 == 167) = true := beq_iff_eq.mpr c9
                  have c9b1 : (a0 != 167) = false := bne_eq_false_iff_eq.mpr c9
                  clear c9
                  have H' := Aside0.mk H
                  clear H
                  go_wp2
                  go_meet
                  case rel => exact ⟨_, (true), (by first | rfl | (simp; done) | (simp [*]; done)), H', ⟨by first | omega | exact Nat.le_refl _⟩, by repeat (first | exact Drawn0.refl _ | apply Drawn0.step)⟩
                · rw [if_neg c9] at H
                  have c9b0 : (a0 == 167) = false := beq_eq_false_iff_ne.mpr c9
                  have c9b1 : (a0 != 167) = true := bne_iff_ne.mpr c9
                  by_cases c10 : a0 = 172
                  · rw [if_pos c10] at H
                    have c10b0 : (a0 == 172) = true := beq_iff_eq.mpr c10
                    have c10b1 : (a0 != 172) = false := bne_eq_false_iff_eq.mpr c10
                    clear c10
                    have H' := Aside0.mk H
                    clear H
                    go_wp2
                    go_meet
                    case rel => exact ⟨_, (true), (by first | rfl | (simp; done) | (simp [*]; done)), H', ⟨by first | omega | exact Nat.le_refl _⟩, by repeat (first | exact Drawn0.refl _ | apply Drawn0.step)⟩
                  · rw [if_neg c10] at H
                    have c10b0 : (a0 == 172) = false := beq_eq_false_iff_ne.mpr c10
                    have c10b1 : (a0 != 172) = true := bne_iff_ne.mpr c10
                    have H' := Aside0.mk H
                    clear H
                    go_wp2
                    go_meet
                    case rel => exact ⟨_, ((a0 == 173)), (by first | rfl | (simp; done) | (simp [*]; done)), H', ⟨by first | omega | exact Nat.le_refl _⟩, by repeat (first | exact Drawn0.refl _ | apply Drawn0.step)⟩
            · rw [if_neg c7] at H
              have c7b0 : decide (121 ≤ a0) = false := decide_eq_false c7
              clear c7
              by_cases c11 : a0 = 167
              · rw [if_pos c11] at H
                have c11b0 : (a0 == 167) = true := beq_iff_eq.mpr c11
                have c11b1 : (a0 != 167) = false := bne_eq_false_iff_eq.mpr c11
                clear c11
                have H' := Aside0.mk H
                clear H
                go_wp2
                go_meet
                case rel => exact ⟨_, (true), (by first | rfl | (simp; done) | (simp [*]; done)), H', ⟨by first | omega | exact Nat.le_refl _⟩, by repeat (first | exact Drawn0.refl _ | apply Drawn0.step)⟩
              · rw [if_neg c11] at H
                have c11b0 : (a0 == 167) = false := beq_eq_false_iff_ne.mpr c11
                have c11b1 : (a0 != 167) = true := bne_iff_ne.mpr c11
                by_cases c12 : a0 = 172
                · rw [if_pos c12] at H
                  have c12b0 : (a0 == 172) = true := beq_iff_eq.mpr c12
                  have c12b1 : (a0 != 172) = false := bne_eq_false_iff_eq.mpr c12
                  clear c12
                  have H' := Aside0.mk H
                  clear H
                  go_wp2
                  go_meet
                  case rel => exact ⟨_, (true), (by first | rfl | (simp; done) | (simp [*]; done)), H', ⟨by first | omega | exact Nat.le_refl _⟩, by repeat (first | exact Drawn0.refl _ | apply Drawn0.step)⟩
                · rw [if_neg c12] at H
                  have c12b0 : (a0 == 172) = false := beq_eq_false_iff_ne.mpr c12
                  have c12b1 : (a0 != 172) = true := bne_iff_ne.mpr c12
                  have H' := Aside0.mk H
                  clear H
                  go_wp2
                  go_meet
                  case rel => exact ⟨_, ((a0 == 173)), (by first | rfl | (simp; done) | (simp [*]; done)), H', ⟨by first | omega | exact Nat.le_refl _⟩, by repeat (first | exact Drawn0.refl _ | apply Drawn0.step)⟩
        · rw [if_neg c5] at H
          have c5b0 : decide (103 ≤ a0) = false := decide_eq_false c5
          clear c5
          by_cases c13 : a0 ≥ 121
          · rw [if_pos c13] at H
            have c13b0 : decide (121 ≤ a0) = true := decide_eq_true c13
            clear c13
            by_cases c14 : a0 ≤ 123
            · rw [if_pos c14] at H
              have c14b0 : decide (a0 ≤ 123) = true := decide_eq_true c14
              clear c14
              have H' := Aside0.mk H
              clear H
              go_wp2
              go_meet
              case rel => exact ⟨_, (true), (by first | rfl | (simp; done) | (simp [*]; done)), H', ⟨by first | omega | exact Nat.le_refl _⟩, by repeat (first | exact Drawn0.refl _ | apply Drawn0.step)⟩
            · rw [if_neg c14] at H
              have c14b0 : decide (a0 ≤ 123) = false := decide_eq_false c14
              clear c14
              by_cases c15 : a0 = 167
              · rw [if_pos c15] at H
                have c15b0 : (a0 == 167) = true := beq_iff_eq.mpr c15
                have c15b1 : (a0 != 167) = false := bne_eq_false_iff_eq.mpr c15
                clear c15
                have H' := Aside0.mk H
                clear H
                go_wp2
                go_meet
                case rel => exact ⟨_, (true), (by first | rfl | (simp; done) | (simp [*]; done)), H', ⟨by first | omega | exact Nat.le_refl _⟩, by repeat (first | exact Drawn0.refl _ | apply Drawn0.step)⟩
              · rw [if_neg c15] at H
                have c15b0 : (a0 == 167) = false := beq_eq_false_iff_ne.mpr c15
                have c15b1 : (a0 != 167) = true := bne_iff_ne.mpr c15
                by_cases c16 : a0 = 172
                · rw [if_pos c16] at H
                  have c16b0 : (a0 == 172) = true := beq_iff_eq.mpr c16
                  have c16b1 : (a0 != 172) = false := bne_eq_false_iff_eq.mpr c16
                  clear c16
                  have H' := Aside0.mk H
                  clear H
                  go_wp2
                  go_meet
                  case rel => exact ⟨_, (true), (by first | rfl | (simp; done) | (simp [*]; done)), H', ⟨by first | omega | exact Nat.le_refl _⟩, by repeat (first | exact Drawn0.refl _ | apply Drawn0.step)⟩
                · rw [if_neg c16] at H
                  have c16b0 : (a0 == 172) = false := beq_eq_false_iff_ne.mpr c16
                  have c16b1 : (a0 != 172) = true := bne_iff_ne.mpr c16
                  have H' := Aside0.mk H
                  clear H
                  go_wp2
                  go_meet
                  case rel => exact ⟨_, ((a0 == 173)), (by first | rfl | (simp; done) | (simp [*]; done)), H', ⟨by first | omega | exact Nat.le_refl _⟩, by repeat (first | exact Drawn0.refl _ | apply Drawn0.step)⟩
          · rw [if_neg c13] at H
            have c13b0 : decide (121 ≤ a0) = false := decide_eq_false c13
            clear c13
            by_cases c17 : a0 = 167
            · rw [if_pos c17] at H
              have c17b0 : (a0 == 167) = true := beq_iff_eq.mpr c17
              have c17b1 : (a0 != 167) = false := bne_eq_false_iff_eq.mpr c17
              clear c17
              have H' := Aside0.mk H
              clear H
              go_wp2
              go_meet
              case rel => exact ⟨_, (true), (by first | rfl | (simp; done) | (simp [*]; done)), H', ⟨by first | omega | exact Nat.le_refl _⟩, by repeat (first | exact Drawn0.refl _ | apply Drawn0.step)⟩
            · rw [if_neg c17] at H
              have c17b0 : (a0 == 167) = false := beq_eq_false_iff_ne.mpr c17
              have c17b1 : (a0 != 167) = true := bne_iff_ne.mpr c17
              by_cases c18 : a0 = 172
              · rw [if_pos c18] at H
                have c18b0 : (a0 == 172) = true := beq_iff_eq.mpr c18
                have c18b1 : (a0 != 172) = false := bne_eq_false_iff_eq.mpr c18
                clear c18
                have H' := Aside0.mk H
                clear H
                go_wp2
                go_meet
                case rel => exact ⟨_, (true), (by first | rfl | (simp; done) | (simp [*]; done)), H', ⟨by first | omega | exact Nat.le_refl _⟩, by repeat (first | exact Drawn0.refl _ | apply Drawn0.step)⟩
              · rw [if_neg c18] at H
                have c18b0 : (a0 == 172) = false := beq_eq_false_iff_ne.mpr c18
                have c18b1 : (a0 != 172) = true := bne_iff_ne.mpr c18
                have H' := Aside0.mk H
                clear H
                go_wp2
                go_meet
                case rel => exact ⟨_, ((a0 == 173)), (by first | rfl | (simp; done) | (simp [*]; done)), H', ⟨by first | omega | exact Nat.le_refl _⟩, by repeat (first | exact Drawn0.refl _ | apply Drawn0.step)⟩
  case rest =>
    clear HC2
    try clear c1
    try clear p2
    try clear c3
    try clear c3b0
    try clear c3b1
    try clear c4
    try clear c4b0
    try clear c4b1
    try clear c5
    try clear c5b0
    try clear c6
    try clear c6b0
    try clear c7
    try clear c7b0
    try clear c8
    try clear c8b0
    try clear c9
    try clear c9b0
    try clear c9b1
    try clear c10
    try clear c10b0
    try clear c10b1
    try clear c11
    try clear c11b0
    try clear c11b1
    try clear c12
    try clear c12b0
    try clear c12b1
    try clear c13
    try clear c13b0
    try clear c14
    try clear c14b0
    try clear c15
    try clear c15b0
    try clear c15b1
    try clear c16
    try clear c16b0
    try clear c16b1
    try clear c17
    try clear c17b0
    try clear c17b1
    try clear c18
    try clear c18b0
    try clear c18b1
    obtain ⟨kq, x36_1, rfl, HA, HJ1, ⟨mc1, rfl⟩⟩ := hcut
    cases kq with
    | zero => exact absurd HA.out (by simp [grommetref03_Args.j0])
    | succ kj1 =>
      have H := HA.out
      clear HA
      simp only [grommetref03_Args.j0] at H
      by_cases c19 : x36_1 = true
      · subst c19
        have H1 : (some 1) = some r := by rw [if_pos rfl] at H; exact H
        clear H
        have H := H1
        clear H1
        obtain rfl := Option.some.inj H
        go_wp2
        go_ret
        exact ⟨by first | rfl | (simp; done) | (simp [*]; done), by repeat (first | exact Drawn0.refl _ | apply Drawn0.step)⟩
      · replace c19 := Bool.eq_false_iff.mpr c19
        subst c19
        have H1 : (if a0 ≥ 70 then (if a0 ≤ 79 then (some 2) else (if a0 ≥ 81 then (if a0 ≤ 90 then (some 2) else (if a0 ≥ 106 then (if a0 ≤ 120 then (some 2) else (if a0 ≥ 124 then (if a0 ≤ 138 then (some 2) else (some (-1))) else (some (-1)))) else (if a0 ≥ 124 then (if a0 ≤ 138 then (some 2) else (some (-1))) else (some (-1))))) else (if a0 ≥ 106 then (if a0 ≤ 120 then (some 2) else (if a0 ≥ 124 then (if a0 ≤ 138 then (some 2) else (some (-1))) else (some (-1)))) else (if a0 ≥ 124 then (if a0 ≤ 138 then (some 2) else (some (-1))) else (some (-1)))))) else (if a0 ≥ 81 then (if a0 ≤ 90 then (some 2) else (if a0 ≥ 106 then (if a0 ≤ 120 then (some 2) else (if a0 ≥ 124 then (if a0 ≤ 138 then (some 2) else (some (-1))) else (some (-1)))) else (if a0 ≥ 124 then (if a0 ≤ 138 then (some 2) else (some (-1))) else (some (-1))))) else (if a0 ≥ 106 then (if a0 ≤ 120 then (some 2) else (if a0 ≥ 124 then (if a0 ≤ 138 then (some 2) else (some (-1))) else (some (-1)))) else (if a0 ≥ 124 then (if a0 ≤ 138 then (some 2) else (some (-1))) else (some (-1)))))) = some r := by rw [if_neg (show ¬ (false = true) by decide)] at H; exact H
        clear H
        have H := H1
        clear H1
        by_cases c20 : a0 ≥ 70
        · rw [if_pos c20] at H
          have c20b0 : decide (70 ≤ a0) = true := decide_eq_true c20
          clear c20
          by_cases c21 : a0 ≤ 79
          · rw [if_pos c21] at H
            have c21b0 : decide (a0 ≤ 79) = true := decide_eq_true c21
            clear c21
            obtain rfl := Option.some.inj H
            go_wp2
            go_ret
            exact ⟨by first | rfl | (simp; done) | (simp [*]; done), by repeat (first | exact Drawn0.refl _ | apply Drawn0.step)⟩
          · rw [if_neg c21] at H
            have c21b0 : decide (a0 ≤ 79) = false := decide_eq_false c21
            clear c21
            by_cases c22 : a0 ≥ 81
            · rw [if_pos c22] at H
              have c22b0 : decide (81 ≤ a0) = true := decide_eq_true c22
              clear c22
              by_cases c23 : a0 ≤ 90
              · rw [if_pos c23] at H
                have c23b0 : decide (a0 ≤ 90) = true := decide_eq_true c23
                clear c23
                obtain rfl := Option.some.inj H
                go_wp2
                go_ret
                exact ⟨by first | rfl | (simp; done) | (simp [*]; done), by repeat (first | exact Drawn0.refl _ | apply Drawn0.step)⟩
              · rw [if_neg c23] at H
                have c23b0 : decide (a0 ≤ 90) = false := decide_eq_false c23
                clear c23
                by_cases c24 : a0 ≥ 106
                · rw [if_pos c24] at H
                  have c24b0 : decide (106 ≤ a0) = true := decide_eq_true c24
                  clear c24
                  by_cases c25 : a0 ≤ 120
                  · rw [if_pos c25] at H
                    have c25b0 : decide (a0 ≤ 120) = true := decide_eq_true c25
                    clear c25
                    obtain rfl := Option.some.inj H
                    go_wp2
                    go_ret
                    exact ⟨by first | rfl | (simp; done) | (simp [*]; done), by repeat (first | exact Drawn0.refl _ | apply Drawn0.step)⟩
                  · rw [if_neg c25] at H
                    have c25b0 : decide (a0 ≤ 120) = false := decide_eq_false c25
                    clear c25
                    by_cases c26 : a0 ≥ 124
                    · rw [if_pos c26] at H
                      have c26b0 : decide (124 ≤ a0) = true := decide_eq_true c26
                      clear c26
                      by_cases c27 : a0 ≤ 138
                      · rw [if_pos c27] at H
                        have c27b0 : decide (a0 ≤ 138) = true := decide_eq_true c27
                        clear c27
                        obtain rfl := Option.some.inj H
                        go_wp2
                        go_ret
                        exact ⟨by first | rfl | (simp; done) | (simp [*]; done), by repeat (first | exact Drawn0.refl _ | apply Drawn0.step)⟩
                      · rw [if_neg c27] at H
                        have c27b0 : decide (a0 ≤ 138) = false := decide_eq_false c27
                        clear c27
                        obtain rfl := Option.some.inj H
                        go_wp2
                        go_ret
                        exact ⟨by first | rfl | (simp; done) | (simp [*]; done), by repeat (first | exact Drawn0.refl _ | apply Drawn0.step)⟩
                    · rw [if_neg c26] at H
                      have c26b0 : decide (124 ≤ a0) = false := decide_eq_false c26
                      clear c26
                      obtain rfl := Option.some.inj H
                      go_wp2
                      go_ret
                      exact ⟨by first | rfl | (simp; done) | (simp [*]; done), by repeat (first | exact Drawn0.refl _ | apply Drawn0.step)⟩
                · rw [if_neg c24] at H
                  have c24b0 : decide (106 ≤ a0) = false := decide_eq_false c24
                  clear c24
                  by_cases c28 : a0 ≥ 124
                  · rw [if_pos c28] at H
                    have c28b0 : decide (124 ≤ a0) = true := decide_eq_true c28
                    clear c28
                    by_cases c29 : a0 ≤ 138
                    · rw [if_pos c29] at H
                      have c29b0 : decide (a0 ≤ 138) = true := decide_eq_true c29
                      clear c29
                      obtain rfl := Option.some.inj H
                      go_wp2
                      go_ret
                      exact ⟨by first | rfl | (simp; done) | (simp [*]; done), by repeat (first | exact Drawn0.refl _ | apply Drawn0.step)⟩
                    · rw [if_neg c29] at H
                      have c29b0 : decide (a0 ≤ 138) = false := decide_eq_false c29
                      clear c29
                      obtain rfl := Option.some.inj H
                      go_wp2
                      go_ret
                      exact ⟨by first | rfl | (simp; done) | (simp [*]; done), by repeat (first | exact Drawn0.refl _ | apply Drawn0.step)⟩
                  · rw [if_neg c28] at H
                    have c28b0 : decide (124 ≤ a0) = false := decide_eq_false c28
                    clear c28
                    obtain rfl := Option.some.inj H
                    go_wp2
                    go_ret
                    exact ⟨by first | rfl | (simp; done) | (simp [*]; done), by repeat (first | exact Drawn0.refl _ | apply Drawn0.step)⟩
            · rw [if_neg c22] at H
              have c22b0 : decide (81 ≤ a0) = false := decide_eq_false c22
              clear c22
              by_cases c30 : a0 ≥ 106
              · rw [if_pos c30] at H
                have c30b0 : decide (106 ≤ a0) = true := decide_eq_true c30
                clear c30
                by_cases c31 : a0 ≤ 120
                · rw [if_pos c31] at H
                  have c31b0 : decide (a0 ≤ 120) = true := decide_eq_true c31
                  clear c31
                  obtain rfl := Option.some.inj H
                  go_wp2
                  go_ret
                  exact ⟨by first | rfl | (simp; done) | (simp [*]; done), by repeat (first | exact Drawn0.refl _ | apply Drawn0.step)⟩
                · rw [if_neg c31] at H
                  have c31b0 : decide (a0 ≤ 120) = false := decide_eq_false c31
                  clear c31
                  by_cases c32 : a0 ≥ 124
                  · rw [if_pos c32] at H
                    have c32b0 : decide (124 ≤ a0) = true := decide_eq_true c32
                    clear c32
                    by_cases c33 : a0 ≤ 138
                    · rw [if_pos c33] at H
                      have c33b0 : decide (a0 ≤ 138) = true := decide_eq_true c33
                      clear c33
                      obtain rfl := Option.some.inj H
                      go_wp2
                      go_ret
                      exact ⟨by first | rfl | (simp; done) | (simp [*]; done), by repeat (first | exact Drawn0.refl _ | apply Drawn0.step)⟩
                    · rw [if_neg c33] at H
                      have c33b0 : decide (a0 ≤ 138) = false := decide_eq_false c33
                      clear c33
                      obtain rfl := Option.some.inj H
                      go_wp2
                      go_ret
                      exact ⟨by first | rfl | (simp; done) | (simp [*]; done), by repeat (first | exact Drawn0.refl _ | apply Drawn0.step)⟩
                  · rw [if_neg c32] at H
                    have c32b0 : decide (124 ≤ a0) = false := decide_eq_false c32
                    clear c32
                    obtain rfl := Option.some.inj H
                    go_wp2
                    go_ret
                    exact ⟨by first | rfl | (simp; done) | (simp [*]; done), by repeat (first | exact Drawn0.refl _ | apply Drawn0.step)⟩
              · rw [if_neg c30] at H
                have c30b0 : decide (106 ≤ a0) = false := decide_eq_false c30
                clear c30
                by_cases c34 : a0 ≥ 124
                · rw [if_pos c34] at H
                  have c34b0 : decide (124 ≤ a0) = true := decide_eq_true c34
                  clear c34
                  by_cases c35 : a0 ≤ 138
                  · rw [if_pos c35] at H
                    have c35b0 : decide (a0 ≤ 138) = true := decide_eq_true c35
                    clear c35
                    obtain rfl := Option.some.inj H
                    go_wp2
                    go_ret
                    exact ⟨by first | rfl | (simp; done) | (simp [*]; done), by repeat (first | exact Drawn0.refl _ | apply Drawn0.step)⟩
                  · rw [if_neg c35] at H
                    have c35b0 : decide (a0 ≤ 138) = false := decide_eq_false c35
                    clear c35
                    obtain rfl := Option.some.inj H
                    go_wp2
                    go_ret
                    exact ⟨by first | rfl | (simp; done) | (simp [*]; done), by repeat (first | exact Drawn0.refl _ | apply Drawn0.step)⟩
                · rw [if_neg c34] at H
                  have c34b0 : decide (124 ≤ a0) = false := decide_eq_false c34
                  clear c34
                  obtain rfl := Option.some.inj H
                  go_wp2
                  go_ret
                  exact ⟨by first | rfl | (simp; done) | (simp [*]; done), by repeat (first | exact Drawn0.refl _ | apply Drawn0.step)⟩
        · rw [if_neg c20] at H
          have c20b0 : decide (70 ≤ a0) = false := decide_eq_false c20
          clear c20
          by_cases c36 : a0 ≥ 81
          · rw [if_pos c36] at H
            have c36b0 : decide (81 ≤ a0) = true := decide_eq_true c36
            clear c36
            by_cases c37 : a0 ≤ 90
            · rw [if_pos c37] at H
              have c37b0 : decide (a0 ≤ 90) = true := decide_eq_true c37
              clear c37
              obtain rfl := Option.some.inj H
              go_wp2
              go_ret
              exact ⟨by first | rfl | (simp; done) | (simp [*]; done), by repeat (first | exact Drawn0.refl _ | apply Drawn0.step)⟩
            · rw [if_neg c37] at H
              have c37b0 : decide (a0 ≤ 90) = false := decide_eq_false c37
              clear c37
              by_cases c38 : a0 ≥ 106
              · rw [if_pos c38] at H
                have c38b0 : decide (106 ≤ a0) = true := decide_eq_true c38
                clear c38
                by_cases c39 : a0 ≤ 120
                · rw [if_pos c39] at H
                  have c39b0 : decide (a0 ≤ 120) = true := decide_eq_true c39
                  clear c39
                  obtain rfl := Option.some.inj H
                  go_wp2
                  go_ret
                  exact ⟨by first | rfl | (simp; done) | (simp [*]; done), by repeat (first | exact Drawn0.refl _ | apply Drawn0.step)⟩
                · rw [if_neg c39] at H
                  have c39b0 : decide (a0 ≤ 120) = false := decide_eq_false c39
                  clear c39
                  by_cases c40 : a0 ≥ 124
                  · rw [if_pos c40] at H
                    have c40b0 : decide (124 ≤ a0) = true := decide_eq_true c40
                    clear c40
                    by_cases c41 : a0 ≤ 138
                    · rw [if_pos c41] at H
                      have c41b0 : decide (a0 ≤ 138) = true := decide_eq_true c41
                      clear c41
                      obtain rfl := Option.some.inj H
                      go_wp2
                      go_ret
                      exact ⟨by first | rfl | (simp; done) | (simp [*]; done), by repeat (first | exact Drawn0.refl _ | apply Drawn0.step)⟩
                    · rw [if_neg c41] at H
                      have c41b0 : decide (a0 ≤ 138) = false := decide_eq_false c41
                      clear c41
                      obtain rfl := Option.some.inj H
                      go_wp2
                      go_ret
                      exact ⟨by first | rfl | (simp; done) | (simp [*]; done), by repeat (first | exact Drawn0.refl _ | apply Drawn0.step)⟩
                  · rw [if_neg c40] at H
                    have c40b0 : decide (124 ≤ a0) = false := decide_eq_false c40
                    clear c40
                    obtain rfl := Option.some.inj H
                    go_wp2
                    go_ret
                    exact ⟨by first | rfl | (simp; done) | (simp [*]; done), by repeat (first | exact Drawn0.refl _ | apply Drawn0.step)⟩
              · rw [if_neg c38] at H
                have c38b0 : decide (106 ≤ a0) = false := decide_eq_false c38
                clear c38
                by_cases c42 : a0 ≥ 124
                · rw [if_pos c42] at H
                  have c42b0 : decide (124 ≤ a0) = true := decide_eq_true c42
                  clear c42
                  by_cases c43 : a0 ≤ 138
                  · rw [if_pos c43] at H
                    have c43b0 : decide (a0 ≤ 138) = true := decide_eq_true c43
                    clear c43
                    obtain rfl := Option.some.inj H
                    go_wp2
                    go_ret
                    exact ⟨by first | rfl | (simp; done) | (simp [*]; done), by repeat (first | exact Drawn0.refl _ | apply Drawn0.step)⟩
                  · rw [if_neg c43] at H
                    have c43b0 : decide (a0 ≤ 138) = false := decide_eq_false c43
                    clear c43
                    obtain rfl := Option.some.inj H
                    go_wp2
                    go_ret
                    exact ⟨by first | rfl | (simp; done) | (simp [*]; done), by repeat (first | exact Drawn0.refl _ | apply Drawn0.step)⟩
                · rw [if_neg c42] at H
                  have c42b0 : decide (124 ≤ a0) = false := decide_eq_false c42
                  clear c42
                  obtain rfl := Option.some.inj H
                  go_wp2
                  go_ret
                  exact ⟨by first | rfl | (simp; done) | (simp [*]; done), by repeat (first | exact Drawn0.refl _ | apply Drawn0.step)⟩
          · rw [if_neg c36] at H
            have c36b0 : decide (81 ≤ a0) = false := decide_eq_false c36
            clear c36
            by_cases c44 : a0 ≥ 106
            · rw [if_pos c44] at H
              have c44b0 : decide (106 ≤ a0) = true := decide_eq_true c44
              clear c44
              by_cases c45 : a0 ≤ 120
              · rw [if_pos c45] at H
                have c45b0 : decide (a0 ≤ 120) = true := decide_eq_true c45
                clear c45
                obtain rfl := Option.some.inj H
                go_wp2
                go_ret
                exact ⟨by first | rfl | (simp; done) | (simp [*]; done), by repeat (first | exact Drawn0.refl _ | apply Drawn0.step)⟩
              · rw [if_neg c45] at H
                have c45b0 : decide (a0 ≤ 120) = false := decide_eq_false c45
                clear c45
                by_cases c46 : a0 ≥ 124
                · rw [if_pos c46] at H
                  have c46b0 : decide (124 ≤ a0) = true := decide_eq_true c46
                  clear c46
                  by_cases c47 : a0 ≤ 138
                  · rw [if_pos c47] at H
                    have c47b0 : decide (a0 ≤ 138) = true := decide_eq_true c47
                    clear c47
                    obtain rfl := Option.some.inj H
                    go_wp2
                    go_ret
                    exact ⟨by first | rfl | (simp; done) | (simp [*]; done), by repeat (first | exact Drawn0.refl _ | apply Drawn0.step)⟩
                  · rw [if_neg c47] at H
                    have c47b0 : decide (a0 ≤ 138) = false := decide_eq_false c47
                    clear c47
                    obtain rfl := Option.some.inj H
                    go_wp2
                    go_ret
                    exact ⟨by first | rfl | (simp; done) | (simp [*]; done), by repeat (first | exact Drawn0.refl _ | apply Drawn0.step)⟩
                · rw [if_neg c46] at H
                  have c46b0 : decide (124 ≤ a0) = false := decide_eq_false c46
                  clear c46
                  obtain rfl := Option.some.inj H
                  go_wp2
                  go_ret
                  exact ⟨by first | rfl | (simp; done) | (simp [*]; done), by repeat (first | exact Drawn0.refl _ | apply Drawn0.step)⟩
            · rw [if_neg c44] at H
              have c44b0 : decide (106 ≤ a0) = false := decide_eq_false c44
              clear c44
              by_cases c48 : a0 ≥ 124
              · rw [if_pos c48] at H
                have c48b0 : decide (124 ≤ a0) = true := decide_eq_true c48
                clear c48
                by_cases c49 : a0 ≤ 138
                · rw [if_pos c49] at H
                  have c49b0 : decide (a0 ≤ 138) = true := decide_eq_true c49
                  clear c49
                  obtain rfl := Option.some.inj H
                  go_wp2
                  go_ret
                  exact ⟨by first | rfl | (simp; done) | (simp [*]; done), by repeat (first | exact Drawn0.refl _ | apply Drawn0.step)⟩
                · rw [if_neg c49] at H
                  have c49b0 : decide (a0 ≤ 138) = false := decide_eq_false c49
                  clear c49
                  obtain rfl := Option.some.inj H
                  go_wp2
                  go_ret
                  exact ⟨by first | rfl | (simp; done) | (simp [*]; done), by repeat (first | exact Drawn0.refl _ | apply Drawn0.step)⟩
              · rw [if_neg c48] at H
                have c48b0 : decide (124 ≤ a0) = false := decide_eq_false c48
                clear c48
                obtain rfl := Option.some.inj H
                go_wp2
                go_ret
                exact ⟨by first | rfl | (simp; done) | (simp [*]; done), by repeat (first | exact Drawn0.refl _ | apply Drawn0.step)⟩

/-! ### grommetref03_Bits: function 14 -/
def grommetref03_Bits.f (a0 : Int) : Option (Int) := if a0 ≥ 80 then (if a0 ≤ 90 then (some 64) else (if a0 ≥ 121 then (if a0 ≤ 138 then (some 64) else (if a0 = 167 then (some 64) else (some 32))) else (if a0 = 167 then (some 64) else (some 32)))) else (if a0 ≥ 121 then (if a0 ≤ 138 then (some 64) else (if a0 = 167 then (some 64) else (some 32))) else (if a0 = 167 then (some 64) else (some 32)))
set_option maxHeartbeats 8000000 in
set_option maxRecDepth 100000 in
theorem grommetref03_Bits.calls (a0 : Int) (r : Int) (w : World) (h : grommetref03_Bits.f a0 = some r) :
    Calls Tryd.prog 14 #[.int .i64 a0] w fun e w' => e = .returned (.int .i64 r) ∧ Drawn0 w w' := by
  have H : (if a0 ≥ 80 then (if a0 ≤ 90 then (some 64) else (if a0 ≥ 121 then (if a0 ≤ 138 then (some 64) else (if a0 = 167 then (some 64) else (some 32))) else (if a0 = 167 then (some 64) else (some 32)))) else (if a0 ≥ 121 then (if a0 ≤ 138 then (some 64) else (if a0 = 167 then (some 64) else (some 32))) else (if a0 = 167 then (some 64) else (some 32)))) = some r := h
  clear h
  by_cases c2 : a0 ≥ 80
  · rw [if_pos c2] at H
    have c2b0 : decide (80 ≤ a0) = true := decide_eq_true c2
    clear c2
    by_cases c3 : a0 ≤ 90
    · rw [if_pos c3] at H
      have c3b0 : decide (a0 ≤ 90) = true := decide_eq_true c3
      clear c3
      obtain rfl := Option.some.inj H
      go_enter Tryd.func14, Tryd.ntmps14
      go_wp2
      go_ret
      exact ⟨by first | rfl | (simp; done) | (simp [*]; done), by repeat (first | exact Drawn0.refl _ | apply Drawn0.step)⟩
    · rw [if_neg c3] at H
      have c3b0 : decide (a0 ≤ 90) = false := decide_eq_false c3
      clear c3
      by_cases c4 : a0 ≥ 121
      · rw [if_pos c4] at H
        have c4b0 : decide (121 ≤ a0) = true := decide_eq_true c4
        clear c4
        by_cases c5 : a0 ≤ 138
        · rw [if_pos c5] at H
          have c5b0 : decide (a0 ≤ 138) = true := decide_eq_true c5
          clear c5
          obtain rfl := Option.some.inj H
          go_enter Tryd.func14, Tryd.ntmps14
          go_wp2
          go_ret
          exact ⟨by first | rfl | (simp; done) | (simp [*]; done), by repeat (first | exact Drawn0.refl _ | apply Drawn0.step)⟩
        · rw [if_neg c5] at H
          have c5b0 : decide (a0 ≤ 138) = false := decide_eq_false c5
          clear c5
          by_cases c6 : a0 = 167
          · rw [if_pos c6] at H
            have c6b0 : (a0 == 167) = true := beq_iff_eq.mpr c6
            have c6b1 : (a0 != 167) = false := bne_eq_false_iff_eq.mpr c6
            clear c6
            obtain rfl := Option.some.inj H
            go_enter Tryd.func14, Tryd.ntmps14
            go_wp2
            go_ret
            exact ⟨by first | rfl | (simp; done) | (simp [*]; done), by repeat (first | exact Drawn0.refl _ | apply Drawn0.step)⟩
          · rw [if_neg c6] at H
            have c6b0 : (a0 == 167) = false := beq_eq_false_iff_ne.mpr c6
            have c6b1 : (a0 != 167) = true := bne_iff_ne.mpr c6
            obtain rfl := Option.some.inj H
            go_enter Tryd.func14, Tryd.ntmps14
            go_wp2
            go_ret
            exact ⟨by first | rfl | (simp; done) | (simp [*]; done), by repeat (first | exact Drawn0.refl _ | apply Drawn0.step)⟩
      · rw [if_neg c4] at H
        have c4b0 : decide (121 ≤ a0) = false := decide_eq_false c4
        clear c4
        by_cases c7 : a0 = 167
        · rw [if_pos c7] at H
          have c7b0 : (a0 == 167) = true := beq_iff_eq.mpr c7
          have c7b1 : (a0 != 167) = false := bne_eq_false_iff_eq.mpr c7
          clear c7
          obtain rfl := Option.some.inj H
          go_enter Tryd.func14, Tryd.ntmps14
          go_wp2
          go_ret
          exact ⟨by first | rfl | (simp; done) | (simp [*]; done), by repeat (first | exact Drawn0.refl _ | apply Drawn0.step)⟩
        · rw [if_neg c7] at H
          have c7b0 : (a0 == 167) = false := beq_eq_false_iff_ne.mpr c7
          have c7b1 : (a0 != 167) = true := bne_iff_ne.mpr c7
          obtain rfl := Option.some.inj H
          go_enter Tryd.func14, Tryd.ntmps14
          go_wp2
          go_ret
          exact ⟨by first | rfl | (simp; done) | (simp [*]; done), by repeat (first | exact Drawn0.refl _ | apply Drawn0.step)⟩
  · rw [if_neg c2] at H
    have c2b0 : decide (80 ≤ a0) = false := decide_eq_false c2
    clear c2
    by_cases c8 : a0 ≥ 121
    · rw [if_pos c8] at H
      have c8b0 : decide (121 ≤ a0) = true := decide_eq_true c8
      clear c8
      by_cases c9 : a0 ≤ 138
      · rw [if_pos c9] at H
        have c9b0 : decide (a0 ≤ 138) = true := decide_eq_true c9
        clear c9
        obtain rfl := Option.some.inj H
        go_enter Tryd.func14, Tryd.ntmps14
        go_wp2
        go_ret
        exact ⟨by first | rfl | (simp; done) | (simp [*]; done), by repeat (first | exact Drawn0.refl _ | apply Drawn0.step)⟩
      · rw [if_neg c9] at H
        have c9b0 : decide (a0 ≤ 138) = false := decide_eq_false c9
        clear c9
        by_cases c10 : a0 = 167
        · rw [if_pos c10] at H
          have c10b0 : (a0 == 167) = true := beq_iff_eq.mpr c10
          have c10b1 : (a0 != 167) = false := bne_eq_false_iff_eq.mpr c10
          clear c10
          obtain rfl := Option.some.inj H
          go_enter Tryd.func14, Tryd.ntmps14
          go_wp2
          go_ret
          exact ⟨by first | rfl | (simp; done) | (simp [*]; done), by repeat (first | exact Drawn0.refl _ | apply Drawn0.step)⟩
        · rw [if_neg c10] at H
          have c10b0 : (a0 == 167) = false := beq_eq_false_iff_ne.mpr c10
          have c10b1 : (a0 != 167) = true := bne_iff_ne.mpr c10
          obtain rfl := Option.some.inj H
          go_enter Tryd.func14, Tryd.ntmps14
          go_wp2
          go_ret
          exact ⟨by first | rfl | (simp; done) | (simp [*]; done), by repeat (first | exact Drawn0.refl _ | apply Drawn0.step)⟩
    · rw [if_neg c8] at H
      have c8b0 : decide (121 ≤ a0) = false := decide_eq_false c8
      clear c8
      by_cases c11 : a0 = 167
      · rw [if_pos c11] at H
        have c11b0 : (a0 == 167) = true := beq_iff_eq.mpr c11
        have c11b1 : (a0 != 167) = false := bne_eq_false_iff_eq.mpr c11
        clear c11
        obtain rfl := Option.some.inj H
        go_enter Tryd.func14, Tryd.ntmps14
        go_wp2
        go_ret
        exact ⟨by first | rfl | (simp; done) | (simp [*]; done), by repeat (first | exact Drawn0.refl _ | apply Drawn0.step)⟩
      · rw [if_neg c11] at H
        have c11b0 : (a0 == 167) = false := beq_eq_false_iff_ne.mpr c11
        have c11b1 : (a0 != 167) = true := bne_iff_ne.mpr c11
        obtain rfl := Option.some.inj H
        go_enter Tryd.func14, Tryd.ntmps14
        go_wp2
        go_ret
        exact ⟨by first | rfl | (simp; done) | (simp [*]; done), by repeat (first | exact Drawn0.refl _ | apply Drawn0.step)⟩

end Go.Proofs.YtgplakhkofchiaaDoor.RNumEvals
