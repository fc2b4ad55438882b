-- Made by the program wip/patchprint.py (this session's own, over the kit's print)
import Derived.Test.YtgplakhkofchiaaDoorRNumOrderx0
import Derived.Test.YtgplakhkofchiaaDoorRNumOrderx3
namespace Go.Proofs.YtgplakhkofchiaaDoor.RNumOrder
open Go.RowKit Go.Proofs.YtgplakhkofchiaaDoor.Man Go.Proofs.YtgplakhkofchiaaDoorW.PrintWords Go.Proofs.YtgplakhkofchiaaDoorW.PrintLast Go.Proofs.YtgplakhkofchiaaDoorW.PrintMore
attribute [local go_sem] max2_int min2_int max_two min_two max_three min_three max_four min_four   -- for this text's walks alone
set_option linter.unusedVariables false
set_option linter.unusedSimpArgs false
set_option linter.unnecessarySimpa false

attribute [local simp] shl_zero
/-! ### grommetlaw03_up: function 10 -/
def grommetlaw03_up.f (k : Nat)  : Option (Bool) := (num_Eval.f k 109 (([2147483648, 4294967295] : List Int))).bind fun bt143 => ((num_Eval.f k 117 (([2147483648, 33] : List Int))).bind fun bt149 => (if bt143.2.2.isNone = true then (if bt143.2.1 = 3 then (if bt149.2.2.isNone = true then (some (bt149.1 == 3221225472)) else (some false)) else (some false)) else (some false)))
theorem grommetlaw03_up.mono : ∀ k, LeO (grommetlaw03_up.f k ) (grommetlaw03_up.f (k + 1) ) := by
  intro  k
  unfold grommetlaw03_up.f
  repeat' first
      | (with_reducible exact num_Eval.mono _ _ _)
      | (with_reducible exact LeO.refl _)
      | (with_reducible exact LeO.none _)
      | (with_reducible refine LeO.ite ?_ ?_)
      | (with_reducible refine LeO.bind ?_ (fun _ => ?_))
      | exact num_Eval.mono _ _ _
      | exact LeO.none _
      | refine LeO.ite ?_ ?_
      | refine LeO.bind ?_ (fun _ => ?_)
set_option maxHeartbeats 8000000 in
set_option maxRecDepth 100000 in
theorem grommetlaw03_up.calls (k : Nat)  (r : Bool) (w : World) (hG : GL w) (h : grommetlaw03_up.f k  = some r) :
    Calls Tryd.prog 10 #[] w fun e w' => e = .returned (.bool r) ∧ Below w.heap.size w w' := by
  have hu30 := Tryd.underlying30
  have hu33 := Tryd.underlying33
  have HGL := Aside0.mk hG
  clear hG
  have HB := Aside0.mk (Below.refl w.heap.size w)
  have H : ((num_Eval.f k 109 (([2147483648, 4294967295] : List Int))).bind fun bt143 => ((num_Eval.f k 117 (([2147483648, 33] : List Int))).bind fun bt149 => (if bt143.2.2.isNone = true then (if bt143.2.1 = 3 then (if bt149.2.2.isNone = true then (some (bt149.1 == 3221225472)) else (some false)) else (some false)) else (some false)))) = some r := h
  clear h
  obtain ⟨y140, hy140⟩ : ∃ y_ : List Int, y_ = (([2147483648, 4294967295] : List Int)) := ⟨_, rfl⟩
  replace H : ((num_Eval.f k 109 y140).bind fun bt143 => ((num_Eval.f k 117 (([2147483648, 33] : List Int))).bind fun bt149 => (if bt143.2.2.isNone = true then (if bt143.2.1 = 3 then (if bt149.2.2.isNone = true then (some (bt149.1 == 3221225472)) else (some false)) else (some false)) else (some false)))) = some r := by first | (rw [hy140]; with_reducible exact H) | (have H2_ := (Option.bind_some _ _).symm.trans H; rw [hy140]; with_reducible exact H2_) | (have H2_ := (Option.bind_some _ _).symm.trans H; with_reducible exact H2_) | with_reducible exact H | (rw [hy140]; exact H) | exact H
  have Ny140 := Aside0.mk hy140
  clear hy140
  replace H := Option.bind_eq_some_iff.mp H
  obtain ⟨⟨t143, t144, t145⟩, A10, H⟩ := H
  replace H : ((num_Eval.f k 117 (([2147483648, 33] : List Int))).bind fun bt149 => (if t145.isNone = true then (if t144 = 3 then (if bt149.2.2.isNone = true then (some (bt149.1 == 3221225472)) else (some false)) else (some false)) else (some false))) = some r := H
  have A1 := Aside0.mk A10
  clear A10
  obtain ⟨y146, hy146⟩ : ∃ y_ : List Int, y_ = (([2147483648, 33] : List Int)) := ⟨_, rfl⟩
  replace H : ((num_Eval.f k 117 y146).bind fun bt149 => (if t145.isNone = true then (if t144 = 3 then (if bt149.2.2.isNone = true then (some (bt149.1 == 3221225472)) else (some false)) else (some false)) else (some false))) = some r := by first | (rw [hy146]; with_reducible exact H) | (have H2_ := (Option.bind_some _ _).symm.trans H; rw [hy146]; with_reducible exact H2_) | (have H2_ := (Option.bind_some _ _).symm.trans H; with_reducible exact H2_) | with_reducible exact H | (rw [hy146]; exact H) | exact H
  have Ny146 := Aside0.mk hy146
  clear hy146
  replace H := Option.bind_eq_some_iff.mp H
  obtain ⟨⟨t149, t150, t151⟩, A20, H⟩ := H
  replace H : (if t145.isNone = true then (if t144 = 3 then (if t151.isNone = true then (some (t149 == 3221225472)) else (some false)) else (some false)) else (some false)) = some r := H
  have A2 := Aside0.mk A20
  clear A20
  rcases t145 with _ | q152
  · have H1 : (if t144 = 3 then (if t151.isNone = true then (some (t149 == 3221225472)) else (some false)) else (some false)) = some r := by rw [if_pos (show (none : Option Int).isNone = true by rfl)] at H; exact H
    clear H
    have H := H1
    clear H1
    try simp only [errW_none, errW_some]
    by_cases c3 : t144 = 3
    · rw [if_pos c3] at H
      have c3b0 : (t144 == 3) = true := beq_iff_eq.mpr c3
      have c3b1 : (t144 != 3) = false := bne_eq_false_iff_eq.mpr c3
      clear c3
      rcases t151 with _ | q153
      · have H1 : (some (t149 == 3221225472)) = some r := by rw [if_pos (show (none : Option Int).isNone = true by rfl)] at H; exact H
        clear H
        have H := H1
        clear H1
        try simp only [errW_none, errW_some]
        obtain rfl := Option.some.inj H
        go_enter Tryd.func10, Tryd.ntmps10
        go_wp2_with (first | ((with_reducible refine gate_dst (N := 8) rfl ?_); refine Kd.R_lit (Kd.int .u64) _ 28 ?hg (N := 8) ?hd (xs := ([2147483648, 4294967295] : List Int)) (inner := [.int .u64 2147483648, .int .u64 4294967295]) (ok := fun _ => True) (okp := fun _ => True) ?hr ?hp (fun _ hk => hk) trivial (Below.refl _ _) (Nat.le_refl _) (by simp) ?_; (case hd => rfl); (case hg => rfl); (case hr => first | (go_simp; done) | (go_simp; rfl)); (case hp => exact (Reps.one (show Kd.M (Kd.int .u64) _ _ _ 2147483648 [.int .u64 2147483648] from rfl) (Reps.one (show Kd.M (Kd.int .u64) _ _ _ 4294967295 [.int .u64 4294967295] from rfl) (Reps.none _ _)))); intro v141 w4 ho5 hb hg_ hnew_; clear hg_ hnew_; (first | rw [← Ny140.out] at ho5 | (simp only [Int.reduceToNat] at ho5; rw [← Ny140.out] at ho5)); have n0_ := Aside0.mk (Kd.R_lower ho5 (below_size (by repeat (first | (with_reducible first | exact HB.out | apply below_alloc | apply pw_below_drewN | apply below_drew1) | exact HB.out)))); have n1_ := Aside0.mk (below_step (by repeat (first | (with_reducible first | exact HB.out | apply below_alloc | apply pw_below_drewN | apply below_drew1) | exact HB.out)) hb); clear HB; have HO142 := n0_; have HB := n1_; clear n0_ n1_; clear hb ho5; obtain ⟨Ao6, co6, eo6⟩ := Kd.R_slice HO142.out; subst eo6) | ((with_reducible refine gate_callee (f := 13) rfl ?_); refine goesL_ (some 9) rfl rfl Tryd.func13 (by kernel_rfl) rfl #[.int .i64 109, .slice Ao6 y140.length co6] rfl (by (try simp only [List.map_toArray, List.map_cons, List.map_nil]); first | done | rfl | (simp only [List.length_drop, List.length_take]; rfl)) ?_; (with_reducible refine (num_Eval.calls k 109 _ _ y140 t143 t144 none _ (GL_at HGL.out (by repeat (first | (with_reducible first | exact HB.out | apply below_alloc | apply pw_below_drewN | apply below_drew1) | exact HB.out))) ?side1 ?side2 A1.out).mono ?_); (case side1 => repeat (first | exact (Kd.R_reads' HO142.out).2.2 | (with_reducible refine Kd.C_alloc ?_ _) | (with_reducible refine Kd.C_drewN ?_ _) | (with_reducible refine Kd.C_drew ?_))); (case side2 => exact (Kd.R_reads' HO142.out).2.1); rintro e w7 ⟨rfl, hb⟩; refine ⟨_, rfl, ?_⟩; have n0_ := Aside0.mk (Kd.R_below (by (with_reducible repeat (first | apply Kd.R_alloc | apply Kd.R_drewN | apply Kd.R_drew)); exact HO142.out) hb); have n1_ := Aside0.mk (below_step (by repeat (first | (with_reducible first | exact HB.out | apply below_alloc | apply pw_below_drewN | apply below_drew1) | exact HB.out)) hb); clear HO142; clear HB; have HO142 := n0_; have HB := n1_; clear n0_ n1_; (try clear hb); (try clear hb2); (try clear hk); (try clear hi); (try simp only [errW_none, errW_some])) | ((with_reducible refine gate_dst (N := 14) rfl ?_); refine Kd.R_lit (Kd.int .u64) _ 28 ?hg (N := 14) ?hd (xs := ([2147483648, 33] : List Int)) (inner := [.int .u64 2147483648, .int .u64 33]) (ok := fun _ => True) (okp := fun _ => True) ?hr ?hp (fun _ hk => hk) trivial (Below.refl _ _) (Nat.le_refl _) (by simp) ?_; (case hd => rfl); (case hg => rfl); (case hr => first | (go_simp; done) | (go_simp; rfl)); (case hp => exact (Reps.one (show Kd.M (Kd.int .u64) _ _ _ 2147483648 [.int .u64 2147483648] from rfl) (Reps.one (show Kd.M (Kd.int .u64) _ _ _ 33 [.int .u64 33] from rfl) (Reps.none _ _)))); intro v147 w8 ho9 hb hg_ hnew_; clear hg_ hnew_; (first | rw [← Ny146.out] at ho9 | (simp only [Int.reduceToNat] at ho9; rw [← Ny146.out] at ho9)); have n0_ := Aside0.mk (Kd.R_elder' (by (with_reducible repeat (first | apply Kd.R_alloc | apply Kd.R_drewN | apply Kd.R_drew)); exact HO142.out) (Kd.R_base ho9) hb); have n1_ := Aside0.mk (Kd.R_lower (Kd.R_new' ho9 (Kd.R_lt (by (with_reducible repeat (first | apply Kd.R_alloc | apply Kd.R_drewN | apply Kd.R_drew)); exact HO142.out))) (below_size (by repeat (first | (with_reducible first | exact HB.out | apply below_alloc | apply pw_below_drewN | apply below_drew1) | exact HB.out)))); have n2_ := Aside0.mk (below_step (by repeat (first | (with_reducible first | exact HB.out | apply below_alloc | apply pw_below_drewN | apply below_drew1) | exact HB.out)) hb); clear HO142; clear HB; have HO142 := n0_; have HO148 := n1_; have HB := n2_; clear n0_ n1_ n2_; clear hb ho9; obtain ⟨Ao10, co10, eo10⟩ := Kd.R_slice HO148.out; subst eo10) | ((with_reducible refine gate_callee (f := 13) rfl ?_); refine goesL_ (some 15) rfl rfl Tryd.func13 (by kernel_rfl) rfl #[.int .i64 117, .slice Ao10 y146.length co10] rfl (by (try simp only [List.map_toArray, List.map_cons, List.map_nil]); first | done | rfl | (simp only [List.length_drop, List.length_take]; rfl)) ?_; (with_reducible refine (num_Eval.calls k 117 _ _ y146 t149 t150 none _ (GL_at HGL.out (by repeat (first | (with_reducible first | exact HB.out | apply below_alloc | apply pw_below_drewN | apply below_drew1) | exact HB.out))) ?side1 ?side2 A2.out).mono ?_); (case side1 => repeat (first | exact (Kd.R_reads' HO148.out).2.2 | (with_reducible refine Kd.C_alloc ?_ _) | (with_reducible refine Kd.C_drewN ?_ _) | (with_reducible refine Kd.C_drew ?_))); (case side2 => exact (Kd.R_reads' HO148.out).2.1); rintro e w11 ⟨rfl, hb⟩; refine ⟨_, rfl, ?_⟩; have n0_ := Aside0.mk (Kd.R_below (by (with_reducible repeat (first | apply Kd.R_alloc | apply Kd.R_drewN | apply Kd.R_drew)); exact HO142.out) hb); have n1_ := Aside0.mk (Kd.R_below (by (with_reducible repeat (first | apply Kd.R_alloc | apply Kd.R_drewN | apply Kd.R_drew)); exact HO148.out) hb); have n2_ := Aside0.mk (below_step (by repeat (first | (with_reducible first | exact HB.out | apply below_alloc | apply pw_below_drewN | apply below_drew1) | exact HB.out)) hb); clear HO142; clear HO148; clear HB; have HO142 := n0_; have HO148 := n1_; have HB := n2_; clear n0_ n1_ n2_; (try clear hb); (try clear hb2); (try clear hk); (try clear hi); (try simp only [errW_none, errW_some])))
        go_ret
        exact ⟨by first | rfl | (simp [errW_none, errW_some] <;> rfl) | (simp [*, errW_none, errW_some] <;> rfl), by repeat (first | (with_reducible first | exact HB.out | apply below_alloc | apply pw_below_drewN | apply below_drew1) | exact HB.out)⟩
      · have H1 : (some false) = some r := by rw [if_neg (show ¬ (some q153).isNone = true by simp)] at H; exact H
        clear H
        have H := H1
        clear H1
        try simp only [errW_none, errW_some]
        obtain rfl := Option.some.inj H
        go_enter Tryd.func10, Tryd.ntmps10
        go_wp2_with (first | ((with_reducible refine gate_dst (N := 8) rfl ?_); refine Kd.R_lit (Kd.int .u64) _ 28 ?hg (N := 8) ?hd (xs := ([2147483648, 4294967295] : List Int)) (inner := [.int .u64 2147483648, .int .u64 4294967295]) (ok := fun _ => True) (okp := fun _ => True) ?hr ?hp (fun _ hk => hk) trivial (Below.refl _ _) (Nat.le_refl _) (by simp) ?_; (case hd => rfl); (case hg => rfl); (case hr => first | (go_simp; done) | (go_simp; rfl)); (case hp => exact (Reps.one (show Kd.M (Kd.int .u64) _ _ _ 2147483648 [.int .u64 2147483648] from rfl) (Reps.one (show Kd.M (Kd.int .u64) _ _ _ 4294967295 [.int .u64 4294967295] from rfl) (Reps.none _ _)))); intro v141 w12 ho13 hb hg_ hnew_; clear hg_ hnew_; (first | rw [← Ny140.out] at ho13 | (simp only [Int.reduceToNat] at ho13; rw [← Ny140.out] at ho13)); have n0_ := Aside0.mk (Kd.R_lower ho13 (below_size (by repeat (first | (with_reducible first | exact HB.out | apply below_alloc | apply pw_below_drewN | apply below_drew1) | exact HB.out)))); have n1_ := Aside0.mk (below_step (by repeat (first | (with_reducible first | exact HB.out | apply below_alloc | apply pw_below_drewN | apply below_drew1) | exact HB.out)) hb); clear HB; have HO142 := n0_; have HB := n1_; clear n0_ n1_; clear hb ho13; obtain ⟨Ao14, co14, eo14⟩ := Kd.R_slice HO142.out; subst eo14) | ((with_reducible refine gate_callee (f := 13) rfl ?_); refine goesL_ (some 9) rfl rfl Tryd.func13 (by kernel_rfl) rfl #[.int .i64 109, .slice Ao14 y140.length co14] rfl (by (try simp only [List.map_toArray, List.map_cons, List.map_nil]); first | done | rfl | (simp only [List.length_drop, List.length_take]; rfl)) ?_; (with_reducible refine (num_Eval.calls k 109 _ _ y140 t143 t144 none _ (GL_at HGL.out (by repeat (first | (with_reducible first | exact HB.out | apply below_alloc | apply pw_below_drewN | apply below_drew1) | exact HB.out))) ?side1 ?side2 A1.out).mono ?_); (case side1 => repeat (first | exact (Kd.R_reads' HO142.out).2.2 | (with_reducible refine Kd.C_alloc ?_ _) | (with_reducible refine Kd.C_drewN ?_ _) | (with_reducible refine Kd.C_drew ?_))); (case side2 => exact (Kd.R_reads' HO142.out).2.1); rintro e w15 ⟨rfl, hb⟩; refine ⟨_, rfl, ?_⟩; have n0_ := Aside0.mk (Kd.R_below (by (with_reducible repeat (first | apply Kd.R_alloc | apply Kd.R_drewN | apply Kd.R_drew)); exact HO142.out) hb); have n1_ := Aside0.mk (below_step (by repeat (first | (with_reducible first | exact HB.out | apply below_alloc | apply pw_below_drewN | apply below_drew1) | exact HB.out)) hb); clear HO142; clear HB; have HO142 := n0_; have HB := n1_; clear n0_ n1_; (try clear hb); (try clear hb2); (try clear hk); (try clear hi); (try simp only [errW_none, errW_some])) | ((with_reducible refine gate_dst (N := 14) rfl ?_); refine Kd.R_lit (Kd.int .u64) _ 28 ?hg (N := 14) ?hd (xs := ([2147483648, 33] : List Int)) (inner := [.int .u64 2147483648, .int .u64 33]) (ok := fun _ => True) (okp := fun _ => True) ?hr ?hp (fun _ hk => hk) trivial (Below.refl _ _) (Nat.le_refl _) (by simp) ?_; (case hd => rfl); (case hg => rfl); (case hr => first | (go_simp; done) | (go_simp; rfl)); (case hp => exact (Reps.one (show Kd.M (Kd.int .u64) _ _ _ 2147483648 [.int .u64 2147483648] from rfl) (Reps.one (show Kd.M (Kd.int .u64) _ _ _ 33 [.int .u64 33] from rfl) (Reps.none _ _)))); intro v147 w16 ho17 hb hg_ hnew_; clear hg_ hnew_; (first | rw [← Ny146.out] at ho17 | (simp only [Int.reduceToNat] at ho17; rw [← Ny146.out] at ho17)); have n0_ := Aside0.mk (Kd.R_elder' (by (with_reducible repeat (first | apply Kd.R_alloc | apply Kd.R_drewN | apply Kd.R_drew)); exact HO142.out) (Kd.R_base ho17) hb); have n1_ := Aside0.mk (Kd.R_lower (Kd.R_new' ho17 (Kd.R_lt (by (with_reducible repeat (first | apply Kd.R_alloc | apply Kd.R_drewN | apply Kd.R_drew)); exact HO142.out))) (below_size (by repeat (first | (with_reducible first | exact HB.out | apply below_alloc | apply pw_below_drewN | apply below_drew1) | exact HB.out)))); have n2_ := Aside0.mk (below_step (by repeat (first | (with_reducible first | exact HB.out | apply below_alloc | apply pw_below_drewN | apply below_drew1) | exact HB.out)) hb); clear HO142; clear HB; have HO142 := n0_; have HO148 := n1_; have HB := n2_; clear n0_ n1_ n2_; clear hb ho17; obtain ⟨Ao18, co18, eo18⟩ := Kd.R_slice HO148.out; subst eo18) | ((with_reducible refine gate_callee (f := 13) rfl ?_); refine goesL_ (some 15) rfl rfl Tryd.func13 (by kernel_rfl) rfl #[.int .i64 117, .slice Ao18 y146.length co18] rfl (by (try simp only [List.map_toArray, List.map_cons, List.map_nil]); first | done | rfl | (simp only [List.length_drop, List.length_take]; rfl)) ?_; (with_reducible refine (num_Eval.calls k 117 _ _ y146 t149 t150 (some q153) _ (GL_at HGL.out (by repeat (first | (with_reducible first | exact HB.out | apply below_alloc | apply pw_below_drewN | apply below_drew1) | exact HB.out))) ?side1 ?side2 A2.out).mono ?_); (case side1 => repeat (first | exact (Kd.R_reads' HO148.out).2.2 | (with_reducible refine Kd.C_alloc ?_ _) | (with_reducible refine Kd.C_drewN ?_ _) | (with_reducible refine Kd.C_drew ?_))); (case side2 => exact (Kd.R_reads' HO148.out).2.1); rintro e w19 ⟨rfl, hb⟩; refine ⟨_, rfl, ?_⟩; have n0_ := Aside0.mk (Kd.R_below (by (with_reducible repeat (first | apply Kd.R_alloc | apply Kd.R_drewN | apply Kd.R_drew)); exact HO142.out) hb); have n1_ := Aside0.mk (Kd.R_below (by (with_reducible repeat (first | apply Kd.R_alloc | apply Kd.R_drewN | apply Kd.R_drew)); exact HO148.out) hb); have n2_ := Aside0.mk (below_step (by repeat (first | (with_reducible first | exact HB.out | apply below_alloc | apply pw_below_drewN | apply below_drew1) | exact HB.out)) hb); clear HO142; clear HO148; clear HB; have HO142 := n0_; have HO148 := n1_; have HB := n2_; clear n0_ n1_ n2_; (try clear hb); (try clear hb2); (try clear hk); (try clear hi); (try simp only [errW_none, errW_some])))
        go_ret
        exact ⟨by first | rfl | (simp [errW_none, errW_some] <;> rfl) | (simp [*, errW_none, errW_some] <;> rfl), by repeat (first | (with_reducible first | exact HB.out | apply below_alloc | apply pw_below_drewN | apply below_drew1) | exact HB.out)⟩
    · rw [if_neg c3] at H
      have c3b0 : (t144 == 3) = false := beq_eq_false_iff_ne.mpr c3
      have c3b1 : (t144 != 3) = true := bne_iff_ne.mpr c3
      obtain rfl := Option.some.inj H
      go_enter Tryd.func10, Tryd.ntmps10
      go_wp2_with (first | ((with_reducible refine gate_dst (N := 8) rfl ?_); refine Kd.R_lit (Kd.int .u64) _ 28 ?hg (N := 8) ?hd (xs := ([2147483648, 4294967295] : List Int)) (inner := [.int .u64 2147483648, .int .u64 4294967295]) (ok := fun _ => True) (okp := fun _ => True) ?hr ?hp (fun _ hk => hk) trivial (Below.refl _ _) (Nat.le_refl _) (by simp) ?_; (case hd => rfl); (case hg => rfl); (case hr => first | (go_simp; done) | (go_simp; rfl)); (case hp => exact (Reps.one (show Kd.M (Kd.int .u64) _ _ _ 2147483648 [.int .u64 2147483648] from rfl) (Reps.one (show Kd.M (Kd.int .u64) _ _ _ 4294967295 [.int .u64 4294967295] from rfl) (Reps.none _ _)))); intro v141 w20 ho21 hb hg_ hnew_; clear hg_ hnew_; (first | rw [← Ny140.out] at ho21 | (simp only [Int.reduceToNat] at ho21; rw [← Ny140.out] at ho21)); have n0_ := Aside0.mk (Kd.R_lower ho21 (below_size (by repeat (first | (with_reducible first | exact HB.out | apply below_alloc | apply pw_below_drewN | apply below_drew1) | exact HB.out)))); have n1_ := Aside0.mk (below_step (by repeat (first | (with_reducible first | exact HB.out | apply below_alloc | apply pw_below_drewN | apply below_drew1) | exact HB.out)) hb); clear HB; have HO142 := n0_; have HB := n1_; clear n0_ n1_; clear hb ho21; obtain ⟨Ao22, co22, eo22⟩ := Kd.R_slice HO142.out; subst eo22) | ((with_reducible refine gate_callee (f := 13) rfl ?_); refine goesL_ (some 9) rfl rfl Tryd.func13 (by kernel_rfl) rfl #[.int .i64 109, .slice Ao22 y140.length co22] rfl (by (try simp only [List.map_toArray, List.map_cons, List.map_nil]); first | done | rfl | (simp only [List.length_drop, List.length_take]; rfl)) ?_; (with_reducible refine (num_Eval.calls k 109 _ _ y140 t143 t144 none _ (GL_at HGL.out (by repeat (first | (with_reducible first | exact HB.out | apply below_alloc | apply pw_below_drewN | apply below_drew1) | exact HB.out))) ?side1 ?side2 A1.out).mono ?_); (case side1 => repeat (first | exact (Kd.R_reads' HO142.out).2.2 | (with_reducible refine Kd.C_alloc ?_ _) | (with_reducible refine Kd.C_drewN ?_ _) | (with_reducible refine Kd.C_drew ?_))); (case side2 => exact (Kd.R_reads' HO142.out).2.1); rintro e w23 ⟨rfl, hb⟩; refine ⟨_, rfl, ?_⟩; have n0_ := Aside0.mk (Kd.R_below (by (with_reducible repeat (first | apply Kd.R_alloc | apply Kd.R_drewN | apply Kd.R_drew)); exact HO142.out) hb); have n1_ := Aside0.mk (below_step (by repeat (first | (with_reducible first | exact HB.out | apply below_alloc | apply pw_below_drewN | apply below_drew1) | exact HB.out)) hb); clear HO142; clear HB; have HO142 := n0_; have HB := n1_; clear n0_ n1_; (try clear hb); (try clear hb2); (try clear hk); (try clear hi); (try simp only [errW_none, errW_some])) | ((with_reducible refine gate_dst (N := 14) rfl ?_); refine Kd.R_lit (Kd.int .u64) _ 28 ?hg (N := 14) ?hd (xs := ([2147483648, 33] : List Int)) (inner := [.int .u64 2147483648, .int .u64 33]) (ok := fun _ => True) (okp := fun _ => True) ?hr ?hp (fun _ hk => hk) trivial (Below.refl _ _) (Nat.le_refl _) (by simp) ?_; (case hd => rfl); (case hg => rfl); (case hr => first | (go_simp; done) | (go_simp; rfl)); (case hp => exact (Reps.one (show Kd.M (Kd.int .u64) _ _ _ 2147483648 [.int .u64 2147483648] from rfl) (Reps.one (show Kd.M (Kd.int .u64) _ _ _ 33 [.int .u64 33] from rfl) (Reps.none _ _)))); intro v147 w24 ho25 hb hg_ hnew_; clear hg_ hnew_; (first | rw [← Ny146.out] at ho25 | (simp only [Int.reduceToNat] at ho25; rw [← Ny146.out] at ho25)); have n0_ := Aside0.mk (Kd.R_elder' (by (with_reducible repeat (first | apply Kd.R_alloc | apply Kd.R_drewN | apply Kd.R_drew)); exact HO142.out) (Kd.R_base ho25) hb); have n1_ := Aside0.mk (Kd.R_lower (Kd.R_new' ho25 (Kd.R_lt (by (with_reducible repeat (first | apply Kd.R_alloc | apply Kd.R_drewN | apply Kd.R_drew)); exact HO142.out))) (below_size (by repeat (first | (with_reducible first | exact HB.out | apply below_alloc | apply pw_below_drewN | apply below_drew1) | exact HB.out)))); have n2_ := Aside0.mk (below_step (by repeat (first | (with_reducible first | exact HB.out | apply below_alloc | apply pw_below_drewN | apply below_drew1) | exact HB.out)) hb); clear HO142; clear HB; have HO142 := n0_; have HO148 := n1_; have HB := n2_; clear n0_ n1_ n2_; clear hb ho25; obtain ⟨Ao26, co26, eo26⟩ := Kd.R_slice HO148.out; subst eo26) | ((with_reducible refine gate_callee (f := 13) rfl ?_); refine goesL_ (some 15) rfl rfl Tryd.func13 (by kernel_rfl) rfl #[.int .i64 117, .slice Ao26 y146.length co26] rfl (by (try simp only [List.map_toArray, List.map_cons, List.map_nil]); first | done | rfl | (simp only [List.length_drop, List.length_take]; rfl)) ?_; (with_reducible refine (num_Eval.calls k 117 _ _ y146 t149 t150 t151 _ (GL_at HGL.out (by repeat (first | (with_reducible first | exact HB.out | apply below_alloc | apply pw_below_drewN | apply below_drew1) | exact HB.out))) ?side1 ?side2 A2.out).mono ?_); (case side1 => repeat (first | exact (Kd.R_reads' HO148.out).2.2 | (with_reducible refine Kd.C_alloc ?_ _) | (with_reducible refine Kd.C_drewN ?_ _) | (with_reducible refine Kd.C_drew ?_))); (case side2 => exact (Kd.R_reads' HO148.out).2.1); rintro e w27 ⟨rfl, hb⟩; refine ⟨_, rfl, ?_⟩; have n0_ := Aside0.mk (Kd.R_below (by (with_reducible repeat (first | apply Kd.R_alloc | apply Kd.R_drewN | apply Kd.R_drew)); exact HO142.out) hb); have n1_ := Aside0.mk (Kd.R_below (by (with_reducible repeat (first | apply Kd.R_alloc | apply Kd.R_drewN | apply Kd.R_drew)); exact HO148.out) hb); have n2_ := Aside0.mk (below_step (by repeat (first | (with_reducible first | exact HB.out | apply below_alloc | apply pw_below_drewN | apply below_drew1) | exact HB.out)) hb); clear HO142; clear HO148; clear HB; have HO142 := n0_; have HO148 := n1_; have HB := n2_; clear n0_ n1_ n2_; (try clear hb); (try clear hb2); (try clear hk); (try clear hi); (try simp only [errW_none, errW_some])))
      go_ret
      exact ⟨by first | rfl | (simp [errW_none, errW_some] <;> rfl) | (simp [*, errW_none, errW_some] <;> rfl), by repeat (first | (with_reducible first | exact HB.out | apply below_alloc | apply pw_below_drewN | apply below_drew1) | exact HB.out)⟩
  · have H1 : (some false) = some r := by rw [if_neg (show ¬ (some q152).isNone = true by simp)] at H; exact H
    clear H
    have H := H1
    clear H1
    try simp only [errW_none, errW_some]
    obtain rfl := Option.some.inj H
    go_enter Tryd.func10, Tryd.ntmps10
    go_wp2_with (first | ((with_reducible refine gate_dst (N := 8) rfl ?_); refine Kd.R_lit (Kd.int .u64) _ 28 ?hg (N := 8) ?hd (xs := ([2147483648, 4294967295] : List Int)) (inner := [.int .u64 2147483648, .int .u64 4294967295]) (ok := fun _ => True) (okp := fun _ => True) ?hr ?hp (fun _ hk => hk) trivial (Below.refl _ _) (Nat.le_refl _) (by simp) ?_; (case hd => rfl); (case hg => rfl); (case hr => first | (go_simp; done) | (go_simp; rfl)); (case hp => exact (Reps.one (show Kd.M (Kd.int .u64) _ _ _ 2147483648 [.int .u64 2147483648] from rfl) (Reps.one (show Kd.M (Kd.int .u64) _ _ _ 4294967295 [.int .u64 4294967295] from rfl) (Reps.none _ _)))); intro v141 w28 ho29 hb hg_ hnew_; clear hg_ hnew_; (first | rw [← Ny140.out] at ho29 | (simp only [Int.reduceToNat] at ho29; rw [← Ny140.out] at ho29)); have n0_ := Aside0.mk (Kd.R_lower ho29 (below_size (by repeat (first | (with_reducible first | exact HB.out | apply below_alloc | apply pw_below_drewN | apply below_drew1) | exact HB.out)))); have n1_ := Aside0.mk (below_step (by repeat (first | (with_reducible first | exact HB.out | apply below_alloc | apply pw_below_drewN | apply below_drew1) | exact HB.out)) hb); clear HB; have HO142 := n0_; have HB := n1_; clear n0_ n1_; clear hb ho29; obtain ⟨Ao30, co30, eo30⟩ := Kd.R_slice HO142.out; subst eo30) | ((with_reducible refine gate_callee (f := 13) rfl ?_); refine goesL_ (some 9) rfl rfl Tryd.func13 (by kernel_rfl) rfl #[.int .i64 109, .slice Ao30 y140.length co30] rfl (by (try simp only [List.map_toArray, List.map_cons, List.map_nil]); first | done | rfl | (simp only [List.length_drop, List.length_take]; rfl)) ?_; (with_reducible refine (num_Eval.calls k 109 _ _ y140 t143 t144 (some q152) _ (GL_at HGL.out (by repeat (first | (with_reducible first | exact HB.out | apply below_alloc | apply pw_below_drewN | apply below_drew1) | exact HB.out))) ?side1 ?side2 A1.out).mono ?_); (case side1 => repeat (first | exact (Kd.R_reads' HO142.out).2.2 | (with_reducible refine Kd.C_alloc ?_ _) | (with_reducible refine Kd.C_drewN ?_ _) | (with_reducible refine Kd.C_drew ?_))); (case side2 => exact (Kd.R_reads' HO142.out).2.1); rintro e w31 ⟨rfl, hb⟩; refine ⟨_, rfl, ?_⟩; have n0_ := Aside0.mk (Kd.R_below (by (with_reducible repeat (first | apply Kd.R_alloc | apply Kd.R_drewN | apply Kd.R_drew)); exact HO142.out) hb); have n1_ := Aside0.mk (below_step (by repeat (first | (with_reducible first | exact HB.out | apply below_alloc | apply pw_below_drewN | apply below_drew1) | exact HB.out)) hb); clear HO142; clear HB; have HO142 := n0_; have HB := n1_; clear n0_ n1_; (try clear hb); (try clear hb2); (try clear hk); (try clear hi); (try simp only [errW_none, errW_some])) | ((with_reducible refine gate_dst (N := 14) rfl ?_); refine Kd.R_lit (Kd.int .u64) _ 28 ?hg (N := 14) ?hd (xs := ([2147483648, 33] : List Int)) (inner := [.int .u64 2147483648, .int .u64 33]) (ok := fun _ => True) (okp := fun _ => True) ?hr ?hp (fun _ hk => hk) trivial (Below.refl _ _) (Nat.le_refl _) (by simp) ?_; (case hd => rfl); (case hg => rfl); (case hr => first | (go_simp; done) | (go_simp; rfl)); (case hp => exact (Reps.one (show Kd.M (Kd.int .u64) _ _ _ 2147483648 [.int .u64 2147483648] from rfl) (Reps.one (show Kd.M (Kd.int .u64) _ _ _ 33 [.int .u64 33] from rfl) (Reps.none _ _)))); intro v147 w32 ho33 hb hg_ hnew_; clear hg_ hnew_; (first | rw [← Ny146.out] at ho33 | (simp only [Int.reduceToNat] at ho33; rw [← Ny146.out] at ho33)); have n0_ := Aside0.mk (Kd.R_elder' (by (with_reducible repeat (first | apply Kd.R_alloc | apply Kd.R_drewN | apply Kd.R_drew)); exact HO142.out) (Kd.R_base ho33) hb); have n1_ := Aside0.mk (Kd.R_lower (Kd.R_new' ho33 (Kd.R_lt (by (with_reducible repeat (first | apply Kd.R_alloc | apply Kd.R_drewN | apply Kd.R_drew)); exact HO142.out))) (below_size (by repeat (first | (with_reducible first | exact HB.out | apply below_alloc | apply pw_below_drewN | apply below_drew1) | exact HB.out)))); have n2_ := Aside0.mk (below_step (by repeat (first | (with_reducible first | exact HB.out | apply below_alloc | apply pw_below_drewN | apply below_drew1) | exact HB.out)) hb); clear HO142; clear HB; have HO142 := n0_; have HO148 := n1_; have HB := n2_; clear n0_ n1_ n2_; clear hb ho33; obtain ⟨Ao34, co34, eo34⟩ := Kd.R_slice HO148.out; subst eo34) | ((with_reducible refine gate_callee (f := 13) rfl ?_); refine goesL_ (some 15) rfl rfl Tryd.func13 (by kernel_rfl) rfl #[.int .i64 117, .slice Ao34 y146.length co34] rfl (by (try simp only [List.map_toArray, List.map_cons, List.map_nil]); first | done | rfl | (simp only [List.length_drop, List.length_take]; rfl)) ?_; (with_reducible refine (num_Eval.calls k 117 _ _ y146 t149 t150 t151 _ (GL_at HGL.out (by repeat (first | (with_reducible first | exact HB.out | apply below_alloc | apply pw_below_drewN | apply below_drew1) | exact HB.out))) ?side1 ?side2 A2.out).mono ?_); (case side1 => repeat (first | exact (Kd.R_reads' HO148.out).2.2 | (with_reducible refine Kd.C_alloc ?_ _) | (with_reducible refine Kd.C_drewN ?_ _) | (with_reducible refine Kd.C_drew ?_))); (case side2 => exact (Kd.R_reads' HO148.out).2.1); rintro e w35 ⟨rfl, hb⟩; refine ⟨_, rfl, ?_⟩; have n0_ := Aside0.mk (Kd.R_below (by (with_reducible repeat (first | apply Kd.R_alloc | apply Kd.R_drewN | apply Kd.R_drew)); exact HO142.out) hb); have n1_ := Aside0.mk (Kd.R_below (by (with_reducible repeat (first | apply Kd.R_alloc | apply Kd.R_drewN | apply Kd.R_drew)); exact HO148.out) hb); have n2_ := Aside0.mk (below_step (by repeat (first | (with_reducible first | exact HB.out | apply below_alloc | apply pw_below_drewN | apply below_drew1) | exact HB.out)) hb); clear HO142; clear HO148; clear HB; have HO142 := n0_; have HO148 := n1_; have HB := n2_; clear n0_ n1_ n2_; (try clear hb); (try clear hb2); (try clear hk); (try clear hi); (try simp only [errW_none, errW_some])))
    go_ret
    exact ⟨by first | rfl | (simp [errW_none, errW_some] <;> rfl) | (simp [*, errW_none, errW_some] <;> rfl), by repeat (first | (with_reducible first | exact HB.out | apply below_alloc | apply pw_below_drewN | apply below_drew1) | exact HB.out)⟩

/-! ### grommetlaw03_NumOrder: function 7 -/
mutual
def grommetlaw03_NumOrder.j0 : Nat → Int → Int → Bool → Int → Option (Bool)
  | 0, _, _, _, _ => none
  | k + 1, x0, x1, x7, x8 => (some (([x0, x1] : List Int) : List Int)).bind fun y155 => ((num_Eval.f k x8 y155).bind fun bt158 => ((num_Eval.f k (wrap64 (x8 + 1)) y155).bind fun bt161 => (if bt158.2.2.isNone = true then (if bt161.2.2.isNone = true then (grommetlaw03_NumOrder.j1 k x7 x8 y155 bt158.1 ((IntKind.u64.wrap (bt158.1 + bt161.1)) != 1)) else (grommetlaw03_NumOrder.j1 k x7 x8 y155 bt158.1 true)) else (grommetlaw03_NumOrder.j1 k x7 x8 y155 bt158.1 true))))
def grommetlaw03_NumOrder.j1 : Nat → Bool → Int → List Int → Int → Bool → Option (Bool)
  | 0, _, _, _, _, _ => none
  | k + 1, x7, x8, x9, x10, x64 => if x64 = true then (some false) else (grommetlaw03_NumOrder.l0 k x7 x8 x9 x10 0)
def grommetlaw03_NumOrder.l0 : Nat → Bool → Int → List Int → Int → Int → Option (Bool)
  | 0, _, _, _, _, _ => none
  | k + 1, x7, x8, x9, x10, x16 => if x16 < 2 then ((num_Eval.f k (wrap64 ((wrap64 (x8 + 2)) + x16)) x9).bind fun bt166 => ((num_Eval.f k (wrap64 ((wrap64 (x8 + 4)) + x16)) x9).bind fun bt169 => ((num_Eval.f k (wrap64 ((wrap64 (x8 + 6)) + x16)) x9).bind fun bt172 => ((num_Eval.f k (wrap64 ((wrap64 (x8 + 8)) + x16)) x9).bind fun bt175 => (if bt166.2.2.isNone = true then (if bt169.2.2.isNone = true then (if bt172.2.2.isNone = true then (if bt175.2.2.isNone = true then (if (IntKind.u64.wrap ((IntKind.u64.wrap (bt166.1 + bt169.1)) + x10)) = 1 then (if bt172.1 = (IntKind.u64.wrap (bt166.1 + x10)) then (if bt175.1 = (IntKind.u64.wrap (bt169.1 + x10)) then (grommetlaw03_NumOrder.l0 k x7 x8 x9 x10 (wrap64 (x16 + 1))) else (some false)) else (some false)) else (some false)) else (some false)) else (some false)) else (some false)) else (some false)))))) else (some x7)
end
def grommetlaw03_NumOrder.f (k : Nat) (a0 : Int) (a1 : Int) (a2 : Bool) : Option (Bool) := (grommetlaw03_up.f k).bind fun t154 => (if a2 = true then (grommetlaw03_NumOrder.j0 k a0 a1 t154 81) else (grommetlaw03_NumOrder.j0 k (Int.tmod a0 4294967296) (Int.tmod a1 4294967296) t154 70))
theorem grommetlaw03_NumOrder.mono_l : ∀ k, (∀ y0 y1 y2 y3, LeO (grommetlaw03_NumOrder.j0 k y0 y1 y2 y3) (grommetlaw03_NumOrder.j0 (k + 1) y0 y1 y2 y3)) ∧ (∀ y0 y1 y2 y3 y4, LeO (grommetlaw03_NumOrder.j1 k y0 y1 y2 y3 y4) (grommetlaw03_NumOrder.j1 (k + 1) y0 y1 y2 y3 y4)) ∧ (∀ y0 y1 y2 y3 y4, LeO (grommetlaw03_NumOrder.l0 k y0 y1 y2 y3 y4) (grommetlaw03_NumOrder.l0 (k + 1) y0 y1 y2 y3 y4))
  | 0 => ⟨fun _ _ _ _ r h => by simp [grommetlaw03_NumOrder.j0] at h, fun _ _ _ _ _ r h => by simp [grommetlaw03_NumOrder.j1] at h, fun _ _ _ _ _ r h => by simp [grommetlaw03_NumOrder.l0] at h⟩
  | k + 1 => by
    obtain ⟨ih0, ih1, ih2⟩ := grommetlaw03_NumOrder.mono_l k
    refine ⟨?_, ?_, ?_⟩
    · intro y0 y1 y2 y3
      unfold grommetlaw03_NumOrder.j0
      repeat' first
      | (with_reducible exact ih0 _ _ _ _)
      | (with_reducible exact ih1 _ _ _ _ _)
      | (with_reducible exact ih2 _ _ _ _ _)
      | (with_reducible exact grommetlaw03_up.mono _)
      | (with_reducible exact num_Eval.mono _ _ _)
      | (with_reducible exact LeO.refl _)
      | (with_reducible exact LeO.none _)
      | (with_reducible refine LeO.ite ?_ ?_)
      | (with_reducible refine LeO.bind ?_ (fun _ => ?_))
      | exact ih0 _ _ _ _
      | exact ih1 _ _ _ _ _
      | exact ih2 _ _ _ _ _
      | exact grommetlaw03_up.mono _
      | exact num_Eval.mono _ _ _
      | exact LeO.none _
      | refine LeO.ite ?_ ?_
      | refine LeO.bind ?_ (fun _ => ?_)
    · intro y0 y1 y2 y3 y4
      unfold grommetlaw03_NumOrder.j1
      repeat' first
      | (with_reducible exact ih0 _ _ _ _)
      | (with_reducible exact ih1 _ _ _ _ _)
      | (with_reducible exact ih2 _ _ _ _ _)
      | (with_reducible exact grommetlaw03_up.mono _)
      | (with_reducible exact num_Eval.mono _ _ _)
      | (with_reducible exact LeO.refl _)
      | (with_reducible exact LeO.none _)
      | (with_reducible refine LeO.ite ?_ ?_)
      | (with_reducible refine LeO.bind ?_ (fun _ => ?_))
      | exact ih0 _ _ _ _
      | exact ih1 _ _ _ _ _
      | exact ih2 _ _ _ _ _
      | exact grommetlaw03_up.mono _
      | exact num_Eval.mono _ _ _
      | exact LeO.none _
      | refine LeO.ite ?_ ?_
      | refine LeO.bind ?_ (fun _ => ?_)
    · intro y0 y1 y2 y3 y4
      unfold grommetlaw03_NumOrder.l0
      repeat' first
      | (with_reducible exact ih0 _ _ _ _)
      | (with_reducible exact ih1 _ _ _ _ _)
      | (with_reducible exact ih2 _ _ _ _ _)
      | (with_reducible exact grommetlaw03_up.mono _)
      | (with_reducible exact num_Eval.mono _ _ _)
      | (with_reducible exact LeO.refl _)
      | (with_reducible exact LeO.none _)
      | (with_reducible refine LeO.ite ?_ ?_)
      | (with_reducible refine LeO.bind ?_ (fun _ => ?_))
      | exact ih0 _ _ _ _
      | exact ih1 _ _ _ _ _
      | exact ih2 _ _ _ _ _
      | exact grommetlaw03_up.mono _
      | exact num_Eval.mono _ _ _
      | exact LeO.none _
      | refine LeO.ite ?_ ?_
      | refine LeO.bind ?_ (fun _ => ?_)
theorem grommetlaw03_NumOrder.mono : ∀ a0 a1 a2 k, LeO (grommetlaw03_NumOrder.f k a0 a1 a2) (grommetlaw03_NumOrder.f (k + 1) a0 a1 a2) := by
  intro a0 a1 a2 k
  obtain ⟨ih0, ih1, ih2⟩ := grommetlaw03_NumOrder.mono_l k
  unfold grommetlaw03_NumOrder.f
  repeat' first
      | (with_reducible exact ih0 _ _ _ _)
      | (with_reducible exact ih1 _ _ _ _ _)
      | (with_reducible exact ih2 _ _ _ _ _)
      | (with_reducible exact grommetlaw03_up.mono _)
      | (with_reducible exact num_Eval.mono _ _ _)
      | (with_reducible exact LeO.refl _)
      | (with_reducible exact LeO.none _)
      | (with_reducible refine LeO.ite ?_ ?_)
      | (with_reducible refine LeO.bind ?_ (fun _ => ?_))
      | exact ih0 _ _ _ _
      | exact ih1 _ _ _ _ _
      | exact ih2 _ _ _ _ _
      | exact grommetlaw03_up.mono _
      | exact num_Eval.mono _ _ _
      | exact LeO.none _
      | refine LeO.ite ?_ ?_
      | refine LeO.bind ?_ (fun _ => ?_)
set_option maxHeartbeats 8000000 in
set_option maxRecDepth 100000 in
theorem grommetlaw03_NumOrder.calls (k : Nat) (a0 : Int) (a1 : Int) (a2 : Bool) (r : Bool) (w : World) (hG : GL w) (h : grommetlaw03_NumOrder.f k a0 a1 a2 = some r) (hrt : r = true) :
    Calls Tryd.prog 7 #[.int .u64 a0, .int .u64 a1, .bool a2] w fun e w' => e = .returned (.bool r) ∧ Below w.heap.size w w' := by
  have HRT := Aside0.mk hrt
  clear hrt
  have hu30 := Tryd.underlying30
  have hu33 := Tryd.underlying33
  have HGL := Aside0.mk hG
  clear hG
  have HB := Aside0.mk (Below.refl w.heap.size w)
  have H : ((grommetlaw03_up.f k).bind fun t154 => (if a2 = true then (grommetlaw03_NumOrder.j0 k a0 a1 t154 81) else (grommetlaw03_NumOrder.j0 k (Int.tmod a0 4294967296) (Int.tmod a1 4294967296) t154 70))) = some r := h
  clear h
  replace H := Option.bind_eq_some_iff.mp H
  obtain ⟨t154, A40, H⟩ := H
  replace H : (if a2 = true then (grommetlaw03_NumOrder.j0 k a0 a1 t154 81) else (grommetlaw03_NumOrder.j0 k (Int.tmod a0 4294967296) (Int.tmod a1 4294967296) t154 70)) = some r := H
  have A4 := Aside0.mk A40
  clear A40
  have HC5 := Aside0.mk H
  clear H
  go_enter Tryd.func7, Tryd.ntmps7
  go_upto_if 30 with (first | ((with_reducible refine gate_callee (f := 10) rfl ?_); refine goesL_ (some 29) rfl rfl Tryd.func10 (by kernel_rfl) rfl #[] rfl (by (try simp only [List.map_toArray, List.map_cons, List.map_nil]); first | done | rfl | (simp only [List.length_drop, List.length_take]; rfl)) ?_; (with_reducible refine (grommetlaw03_up.calls k  t154 _ (GL_at HGL.out (by repeat (first | (with_reducible first | exact HB.out | apply below_alloc | apply pw_below_drewN | apply below_drew1) | exact HB.out))) A4.out).mono ?_); rintro e w6 ⟨rfl, hb⟩; refine ⟨_, rfl, ?_⟩; have n0_ := Aside0.mk (below_step (by repeat (first | (with_reducible first | exact HB.out | apply below_alloc | apply pw_below_drewN | apply below_drew1) | exact HB.out)) hb); clear HB; have HB := n0_; clear n0_; (try clear hb); (try clear hb2); (try clear hk); (try clear hi)))
  (try simp only [Act.put, List.setIfInBounds_toArray, List.set_cons_zero, List.set_cons_succ])
  go_cut [0, 1, 8] (fun v0 v1 v8 wc => ∃ (kq : Nat) (x0_4 : Int) (x1_4 : Int) (x8_4 : Int), v0 = .int .u64 x0_4 ∧ v1 = .int .u64 x1_4 ∧ v8 = .int .i64 x8_4 ∧ Aside0 (grommetlaw03_NumOrder.j0 kq x0_4 x1_4 t154 x8_4 = some r) ∧ Aside0 (kq ≤ k) ∧ Aside0 (Below w.heap.size w wc))
  case first =>
    have H := HC5.out
    clear HC5
    by_cases c7 : a2 = true
    · subst c7
      have H1 : (grommetlaw03_NumOrder.j0 k a0 a1 t154 81) = some r := by rw [if_pos rfl] at H; exact H
      clear H
      have H := H1
      clear H1
      have H' := Aside0.mk H
      clear H
      go_wp2
      go_meet
      case rel => exact ⟨_, (a0), (a1), (81), (by first | rfl | (simp; done) | (simp [*]; done)), (by first | rfl | (simp; done) | (simp [*]; done)), (by first | rfl | (simp; done) | (simp [*]; done)), H', ⟨by first | omega | exact Nat.le_refl _⟩, ⟨by repeat (first | (with_reducible first | exact HB.out | apply below_alloc | apply pw_below_drewN | apply below_drew1) | exact HB.out)⟩⟩
    · replace c7 := Bool.eq_false_iff.mpr c7
      subst c7
      have H1 : (grommetlaw03_NumOrder.j0 k (Int.tmod a0 4294967296) (Int.tmod a1 4294967296) t154 70) = some r := by rw [if_neg (show ¬ (false = true) by decide)] at H; exact H
      clear H
      have H := H1
      clear H1
      have H' := Aside0.mk H
      clear H
      go_wp2
      go_meet
      case rel => exact ⟨_, (Int.tmod a0 4294967296), (Int.tmod a1 4294967296), (70), (by first | rfl | (simp; done) | (simp [*]; done)), (by first | rfl | (simp; done) | (simp [*]; done)), (by first | rfl | (simp; done) | (simp [*]; done)), H', ⟨by first | omega | exact Nat.le_refl _⟩, ⟨by repeat (first | (with_reducible first | exact HB.out | apply below_alloc | apply pw_below_drewN | apply below_drew1) | exact HB.out)⟩⟩
  case rest =>
    clear HC5
    try clear c1
    try clear p2
    try clear c7
    obtain ⟨kq, x0_4, x1_4, x8_4, rfl, rfl, rfl, HA, HJ4, HB⟩ := hcut
    cases kq with
    | zero => exact absurd HA.out (by simp [grommetlaw03_NumOrder.j0])
    | succ kj4 =>
      have H := HA.out
      clear HA
      simp only [grommetlaw03_NumOrder.j0] at H
      obtain ⟨y155, hy155⟩ : ∃ y_ : List Int, y_ = (([x0_4, x1_4] : List Int)) := ⟨_, rfl⟩
      replace H : ((num_Eval.f kj4 x8_4 y155).bind fun bt158 => ((num_Eval.f kj4 (wrap64 (x8_4 + 1)) y155).bind fun bt161 => (if bt158.2.2.isNone = true then (if bt161.2.2.isNone = true then (grommetlaw03_NumOrder.j1 kj4 t154 x8_4 y155 bt158.1 ((IntKind.u64.wrap (bt158.1 + bt161.1)) != 1)) else (grommetlaw03_NumOrder.j1 kj4 t154 x8_4 y155 bt158.1 true)) else (grommetlaw03_NumOrder.j1 kj4 t154 x8_4 y155 bt158.1 true)))) = some r := by first | (rw [hy155]; with_reducible exact H) | (have H2_ := (Option.bind_some _ _).symm.trans H; rw [hy155]; with_reducible exact H2_) | (have H2_ := (Option.bind_some _ _).symm.trans H; with_reducible exact H2_) | with_reducible exact H | (rw [hy155]; exact H) | exact H
      have Ny155 := Aside0.mk hy155
      clear hy155
      replace H := Option.bind_eq_some_iff.mp H
      obtain ⟨⟨t158, t159, t160⟩, A80, H⟩ := H
      replace H : ((num_Eval.f kj4 (wrap64 (x8_4 + 1)) y155).bind fun bt161 => (if t160.isNone = true then (if bt161.2.2.isNone = true then (grommetlaw03_NumOrder.j1 kj4 t154 x8_4 y155 t158 ((IntKind.u64.wrap (t158 + bt161.1)) != 1)) else (grommetlaw03_NumOrder.j1 kj4 t154 x8_4 y155 t158 true)) else (grommetlaw03_NumOrder.j1 kj4 t154 x8_4 y155 t158 true))) = some r := H
      have A8 := Aside0.mk A80
      clear A80
      replace H := Option.bind_eq_some_iff.mp H
      obtain ⟨⟨t161, t162, t163⟩, A90, H⟩ := H
      replace H : (if t160.isNone = true then (if t163.isNone = true then (grommetlaw03_NumOrder.j1 kj4 t154 x8_4 y155 t158 ((IntKind.u64.wrap (t158 + t161)) != 1)) else (grommetlaw03_NumOrder.j1 kj4 t154 x8_4 y155 t158 true)) else (grommetlaw03_NumOrder.j1 kj4 t154 x8_4 y155 t158 true)) = some r := H
      have A9 := Aside0.mk A90
      clear A90
      have HC10 := Aside0.mk H
      clear H
      go_upto_region 10 with (first | ((with_reducible refine gate_dst (N := 37) rfl ?_); refine Kd.R_lit (Kd.int .u64) _ 28 ?hg (N := 37) ?hd (xs := ([x0_4, x1_4] : List Int)) (inner := [.int .u64 x0_4, .int .u64 x1_4]) (ok := fun _ => True) (okp := fun _ => True) ?hr ?hp (fun _ hk => hk) trivial (Below.refl _ _) (Nat.le_refl _) (by simp) ?_; (case hd => rfl); (case hg => rfl); (case hr => first | (go_simp; done) | (go_simp; rfl)); (case hp => exact (Reps.one (show Kd.M (Kd.int .u64) _ _ _ x0_4 [.int .u64 x0_4] from rfl) (Reps.one (show Kd.M (Kd.int .u64) _ _ _ x1_4 [.int .u64 x1_4] from rfl) (Reps.none _ _)))); intro v156 w11 ho12 hb hg_ hnew_; clear hg_ hnew_; (first | rw [← Ny155.out] at ho12 | (simp only [Int.reduceToNat] at ho12; rw [← Ny155.out] at ho12)); have n0_ := Aside0.mk (Kd.R_lower ho12 (below_size (by repeat (first | (with_reducible first | exact HB.out | apply below_alloc | apply pw_below_drewN | apply below_drew1) | exact HB.out)))); have n1_ := Aside0.mk (below_step (by repeat (first | (with_reducible first | exact HB.out | apply below_alloc | apply pw_below_drewN | apply below_drew1) | exact HB.out)) hb); clear HB; have HO157 := n0_; have HB := n1_; clear n0_ n1_; clear hb ho12; obtain ⟨Ao13, co13, eo13⟩ := Kd.R_slice HO157.out; subst eo13) | ((with_reducible refine gate_callee (f := 13) rfl ?_); refine goesL_ (some 41) rfl rfl Tryd.func13 (by kernel_rfl) rfl #[.int .i64 x8_4, .slice Ao13 y155.length co13] rfl (by (try simp only [List.map_toArray, List.map_cons, List.map_nil]); first | done | rfl | (simp only [List.length_drop, List.length_take]; rfl)) ?_; (with_reducible refine (num_Eval.calls kj4 x8_4 _ _ y155 t158 t159 t160 _ (GL_at HGL.out (by repeat (first | (with_reducible first | exact HB.out | apply below_alloc | apply pw_below_drewN | apply below_drew1) | exact HB.out))) ?side1 ?side2 A8.out).mono ?_); (case side1 => repeat (first | exact (Kd.R_reads' HO157.out).2.2 | (with_reducible refine Kd.C_alloc ?_ _) | (with_reducible refine Kd.C_drewN ?_ _) | (with_reducible refine Kd.C_drew ?_))); (case side2 => exact (Kd.R_reads' HO157.out).2.1); rintro e w14 ⟨rfl, hb⟩; refine ⟨_, rfl, ?_⟩; have n0_ := Aside0.mk (Kd.R_below (by (with_reducible repeat (first | apply Kd.R_alloc | apply Kd.R_drewN | apply Kd.R_drew)); exact HO157.out) hb); have n1_ := Aside0.mk (below_step (by repeat (first | (with_reducible first | exact HB.out | apply below_alloc | apply pw_below_drewN | apply below_drew1) | exact HB.out)) hb); clear HO157; clear HB; have HO157 := n0_; have HB := n1_; clear n0_ n1_; (try clear hb); (try clear hb2); (try clear hk); (try clear hi); (try simp only [errW_none, errW_some])) | ((with_reducible refine gate_callee (f := 13) rfl ?_); refine goesL_ (some 49) rfl rfl Tryd.func13 (by kernel_rfl) rfl #[.int .i64 (wrap64 (x8_4 + 1)), .slice Ao13 y155.length co13] rfl (by (try simp only [List.map_toArray, List.map_cons, List.map_nil]); first | done | rfl | (simp only [List.length_drop, List.length_take]; rfl)) ?_; (with_reducible refine (num_Eval.calls kj4 (wrap64 (x8_4 + 1)) _ _ y155 t161 t162 t163 _ (GL_at HGL.out (by repeat (first | (with_reducible first | exact HB.out | apply below_alloc | apply pw_below_drewN | apply below_drew1) | exact HB.out))) ?side1 ?side2 A9.out).mono ?_); (case side1 => repeat (first | exact (Kd.R_reads' HO157.out).2.2 | (with_reducible refine Kd.C_alloc ?_ _) | (with_reducible refine Kd.C_drewN ?_ _) | (with_reducible refine Kd.C_drew ?_))); (case side2 => exact (Kd.R_reads' HO157.out).2.1); rintro e w15 ⟨rfl, hb⟩; refine ⟨_, rfl, ?_⟩; have n0_ := Aside0.mk (Kd.R_below (by (with_reducible repeat (first | apply Kd.R_alloc | apply Kd.R_drewN | apply Kd.R_drew)); exact HO157.out) hb); have n1_ := Aside0.mk (below_step (by repeat (first | (with_reducible first | exact HB.out | apply below_alloc | apply pw_below_drewN | apply below_drew1) | exact HB.out)) hb); clear HO157; clear HB; have HO157 := n0_; have HB := n1_; clear n0_ n1_; (try clear hb); (try clear hb2); (try clear hk); (try clear hi); (try simp only [errW_none, errW_some])))
      (try simp only [Act.put, List.setIfInBounds_toArray, List.set_cons_zero, List.set_cons_succ])
      go_cut [64] (fun v64 wc => ∃ (kq : Nat) (x64_9 : Bool), v64 = .bool x64_9 ∧ Aside0 (grommetlaw03_NumOrder.j1 kq t154 x8_4 y155 t158 x64_9 = some r) ∧ Aside0 (kq ≤ kj4) ∧ Aside0 (Kd.R (Kd.int .u64) 28 wc w.heap.size (fun _ => True) (.slice Ao13 y155.length co13) y155) ∧ Aside0 (Below w.heap.size w wc))
      case first =>
        have H := HC10.out
        clear HC10
        rcases t160 with _ | q164
        · have H1 : (if t163.isNone = true then (grommetlaw03_NumOrder.j1 kj4 t154 x8_4 y155 t158 ((IntKind.u64.wrap (t158 + t161)) != 1)) else (grommetlaw03_NumOrder.j1 kj4 t154 x8_4 y155 t158 true)) = some r := by rw [if_pos (show (none : Option Int).isNone = true by rfl)] at H; exact H
          clear H
          have H := H1
          clear H1
          try simp only [errW_none, errW_some]
          rcases t163 with _ | q165
          · have H1 : (grommetlaw03_NumOrder.j1 kj4 t154 x8_4 y155 t158 ((IntKind.u64.wrap (t158 + t161)) != 1)) = some r := by rw [if_pos (show (none : Option Int).isNone = true by rfl)] at H; exact H
            clear H
            have H := H1
            clear H1
            try simp only [errW_none, errW_some]
            have H' := Aside0.mk H
            clear H
            go_wp2
            go_meet
            case rel => exact ⟨_, (((IntKind.u64.wrap (t158 + t161)) != 1)), (by first | rfl | (simp; done) | (simp [*]; done)), H', ⟨by have := HJ4.out; first | omega | exact Nat.le_refl _⟩, ⟨by (with_reducible repeat (first | apply Kd.R_alloc | apply Kd.R_drewN | apply Kd.R_drew)); exact HO157.out⟩, ⟨by repeat (first | (with_reducible first | exact HB.out | apply below_alloc | apply pw_below_drewN | apply below_drew1) | exact HB.out)⟩⟩
          · have H1 : (grommetlaw03_NumOrder.j1 kj4 t154 x8_4 y155 t158 true) = some r := by rw [if_neg (show ¬ (some q165).isNone = true by simp)] at H; exact H
            clear H
            have H := H1
            clear H1
            try simp only [errW_none, errW_some]
            have H' := Aside0.mk H
            clear H
            go_wp2
            go_meet
            case rel => exact ⟨_, (true), (by first | rfl | (simp; done) | (simp [*]; done)), H', ⟨by have := HJ4.out; first | omega | exact Nat.le_refl _⟩, ⟨by (with_reducible repeat (first | apply Kd.R_alloc | apply Kd.R_drewN | apply Kd.R_drew)); exact HO157.out⟩, ⟨by repeat (first | (with_reducible first | exact HB.out | apply below_alloc | apply pw_below_drewN | apply below_drew1) | exact HB.out)⟩⟩
        · have H1 : (grommetlaw03_NumOrder.j1 kj4 t154 x8_4 y155 t158 true) = some r := by rw [if_neg (show ¬ (some q164).isNone = true by simp)] at H; exact H
          clear H
          have H := H1
          clear H1
          try simp only [errW_none, errW_some]
          have H' := Aside0.mk H
          clear H
          go_wp2
          go_meet
          case rel => exact ⟨_, (true), (by first | rfl | (simp; done) | (simp [*]; done)), H', ⟨by have := HJ4.out; first | omega | exact Nat.le_refl _⟩, ⟨by (with_reducible repeat (first | apply Kd.R_alloc | apply Kd.R_drewN | apply Kd.R_drew)); exact HO157.out⟩, ⟨by repeat (first | (with_reducible first | exact HB.out | apply below_alloc | apply pw_below_drewN | apply below_drew1) | exact HB.out)⟩⟩
      case rest =>
        clear HC10
        try clear c1
        try clear q1
        try clear p2
        try clear p6
        try clear c7
        try clear c10
        try clear c13
        try clear p2
        try clear q164
        try clear q165
        obtain ⟨kq, x64_9, rfl, HA, HJ9, HO_9, HB⟩ := hcut
        cases kq with
        | zero => exact absurd HA.out (by simp [grommetlaw03_NumOrder.j1])
        | succ kj9 =>
          have H := HA.out
          clear HA
          simp only [grommetlaw03_NumOrder.j1] at H
          by_cases c16 : x64_9 = true
          · subst c16
            have H1 : (some false) = some r := by rw [if_pos rfl] at H; exact H
            clear H
            have H := H1
            clear H1
            exact absurd ((Option.some.inj H).trans HRT.out) (by decide)
          · replace c16 := Bool.eq_false_iff.mpr c16
            subst c16
            have H1 : (grommetlaw03_NumOrder.l0 kj9 t154 x8_4 y155 t158 0) = some r := by rw [if_neg (show ¬ (false = true) by decide)] at H; exact H
            clear H
            have H := H1
            clear H1
            have H' := Aside0.mk H
            clear H
            go_wp2
            go_loopg [16] kj9 (fun kq v16 w' => ∃ (x16_3 : Int), v16 = .int .i64 x16_3 ∧ Aside0 (grommetlaw03_NumOrder.l0 kq t154 x8_4 y155 t158 x16_3 = some r) ∧ Aside0 (kq ≤ kj9) ∧ Aside0 (Kd.R (Kd.int .u64) 28 w' w.heap.size (fun _ => True) (.slice Ao13 y155.length co13) y155) ∧ Aside0 (Below w.heap.size w w'))
            case atStart => exact ⟨(0), (by first | rfl | (simp; done) | (simp [*]; done)), H', ⟨Nat.le_refl _⟩, ⟨by (with_reducible repeat (first | apply Kd.R_alloc | apply Kd.R_drewN | apply Kd.R_drew)); exact HO_9.out⟩, ⟨by repeat (first | (with_reducible first | exact HB.out | apply below_alloc | apply pw_below_drewN | apply below_drew1) | exact HB.out)⟩⟩
            case round =>
              clear H'
              try clear c1
              try clear q1
              try clear p2
              try clear p6
              try clear c7
              try clear c10
              try clear c13
              try clear c16
              try clear q16
              try clear p2
              try clear p6
              try clear q1
              try clear q164
              try clear q165
              obtain ⟨x16_3, rfl, HA, HK3, HO_9, HB⟩ := hrel
              cases gk with
              | zero => exact absurd HA.out (by simp [grommetlaw03_NumOrder.l0])
              | succ k3 =>
                have H := HA.out
                clear HA
                simp only [grommetlaw03_NumOrder.l0] at H
                by_cases c17 : x16_3 < 2
                · rw [if_pos c17] at H
                  have c17b0 : decide (x16_3 < 2) = true := decide_eq_true c17
                  clear c17
                  replace H := Option.bind_eq_some_iff.mp H
                  obtain ⟨⟨t166, t167, t168⟩, A180, H⟩ := H
                  replace H : ((num_Eval.f k3 (wrap64 ((wrap64 (x8_4 + 4)) + x16_3)) y155).bind fun bt169 => ((num_Eval.f k3 (wrap64 ((wrap64 (x8_4 + 6)) + x16_3)) y155).bind fun bt172 => ((num_Eval.f k3 (wrap64 ((wrap64 (x8_4 + 8)) + x16_3)) y155).bind fun bt175 => (if t168.isNone = true then (if bt169.2.2.isNone = true then (if bt172.2.2.isNone = true then (if bt175.2.2.isNone = true then (if (IntKind.u64.wrap ((IntKind.u64.wrap (t166 + bt169.1)) + t158)) = 1 then (if bt172.1 = (IntKind.u64.wrap (t166 + t158)) then (if bt175.1 = (IntKind.u64.wrap (bt169.1 + t158)) then (grommetlaw03_NumOrder.l0 k3 t154 x8_4 y155 t158 (wrap64 (x16_3 + 1))) else (some false)) else (some false)) else (some false)) else (some false)) else (some false)) else (some false)) else (some false))))) = some r := H
                  have A18 := Aside0.mk A180
                  clear A180
                  replace H := Option.bind_eq_some_iff.mp H
                  obtain ⟨⟨t169, t170, t171⟩, A190, H⟩ := H
                  replace H : ((num_Eval.f k3 (wrap64 ((wrap64 (x8_4 + 6)) + x16_3)) y155).bind fun bt172 => ((num_Eval.f k3 (wrap64 ((wrap64 (x8_4 + 8)) + x16_3)) y155).bind fun bt175 => (if t168.isNone = true then (if t171.isNone = true then (if bt172.2.2.isNone = true then (if bt175.2.2.isNone = true then (if (IntKind.u64.wrap ((IntKind.u64.wrap (t166 + t169)) + t158)) = 1 then (if bt172.1 = (IntKind.u64.wrap (t166 + t158)) then (if bt175.1 = (IntKind.u64.wrap (t169 + t158)) then (grommetlaw03_NumOrder.l0 k3 t154 x8_4 y155 t158 (wrap64 (x16_3 + 1))) else (some false)) else (some false)) else (some false)) else (some false)) else (some false)) else (some false)) else (some false)))) = some r := H
                  have A19 := Aside0.mk A190
                  clear A190
                  replace H := Option.bind_eq_some_iff.mp H
                  obtain ⟨⟨t172, t173, t174⟩, A200, H⟩ := H
                  replace H : ((num_Eval.f k3 (wrap64 ((wrap64 (x8_4 + 8)) + x16_3)) y155).bind fun bt175 => (if t168.isNone = true then (if t171.isNone = true then (if t174.isNone = true then (if bt175.2.2.isNone = true then (if (IntKind.u64.wrap ((IntKind.u64.wrap (t166 + t169)) + t158)) = 1 then (if t172 = (IntKind.u64.wrap (t166 + t158)) then (if bt175.1 = (IntKind.u64.wrap (t169 + t158)) then (grommetlaw03_NumOrder.l0 k3 t154 x8_4 y155 t158 (wrap64 (x16_3 + 1))) else (some false)) else (some false)) else (some false)) else (some false)) else (some false)) else (some false)) else (some false))) = some r := H
                  have A20 := Aside0.mk A200
                  clear A200
                  replace H := Option.bind_eq_some_iff.mp H
                  obtain ⟨⟨t175, t176, t177⟩, A210, H⟩ := H
                  replace H : (if t168.isNone = true then (if t171.isNone = true then (if t174.isNone = true then (if t177.isNone = true then (if (IntKind.u64.wrap ((IntKind.u64.wrap (t166 + t169)) + t158)) = 1 then (if t172 = (IntKind.u64.wrap (t166 + t158)) then (if t175 = (IntKind.u64.wrap (t169 + t158)) then (grommetlaw03_NumOrder.l0 k3 t154 x8_4 y155 t158 (wrap64 (x16_3 + 1))) else (some false)) else (some false)) else (some false)) else (some false)) else (some false)) else (some false)) else (some false)) = some r := H
                  have A21 := Aside0.mk A210
                  clear A210
                  rcases t168 with _ | q178
                  · have H1 : (if t171.isNone = true then (if t174.isNone = true then (if t177.isNone = true then (if (IntKind.u64.wrap ((IntKind.u64.wrap (t166 + t169)) + t158)) = 1 then (if t172 = (IntKind.u64.wrap (t166 + t158)) then (if t175 = (IntKind.u64.wrap (t169 + t158)) then (grommetlaw03_NumOrder.l0 k3 t154 x8_4 y155 t158 (wrap64 (x16_3 + 1))) else (some false)) else (some false)) else (some false)) else (some false)) else (some false)) else (some false)) = some r := by rw [if_pos (show (none : Option Int).isNone = true by rfl)] at H; exact H
                    clear H
                    have H := H1
                    clear H1
                    try simp only [errW_none, errW_some]
                    rcases t171 with _ | q179
                    · have H1 : (if t174.isNone = true then (if t177.isNone = true then (if (IntKind.u64.wrap ((IntKind.u64.wrap (t166 + t169)) + t158)) = 1 then (if t172 = (IntKind.u64.wrap (t166 + t158)) then (if t175 = (IntKind.u64.wrap (t169 + t158)) then (grommetlaw03_NumOrder.l0 k3 t154 x8_4 y155 t158 (wrap64 (x16_3 + 1))) else (some false)) else (some false)) else (some false)) else (some false)) else (some false)) = some r := by rw [if_pos (show (none : Option Int).isNone = true by rfl)] at H; exact H
                      clear H
                      have H := H1
                      clear H1
                      try simp only [errW_none, errW_some]
                      rcases t174 with _ | q180
                      · have H1 : (if t177.isNone = true then (if (IntKind.u64.wrap ((IntKind.u64.wrap (t166 + t169)) + t158)) = 1 then (if t172 = (IntKind.u64.wrap (t166 + t158)) then (if t175 = (IntKind.u64.wrap (t169 + t158)) then (grommetlaw03_NumOrder.l0 k3 t154 x8_4 y155 t158 (wrap64 (x16_3 + 1))) else (some false)) else (some false)) else (some false)) else (some false)) = some r := by rw [if_pos (show (none : Option Int).isNone = true by rfl)] at H; exact H
                        clear H
                        have H := H1
                        clear H1
                        try simp only [errW_none, errW_some]
                        rcases t177 with _ | q181
                        · have H1 : (if (IntKind.u64.wrap ((IntKind.u64.wrap (t166 + t169)) + t158)) = 1 then (if t172 = (IntKind.u64.wrap (t166 + t158)) then (if t175 = (IntKind.u64.wrap (t169 + t158)) then (grommetlaw03_NumOrder.l0 k3 t154 x8_4 y155 t158 (wrap64 (x16_3 + 1))) else (some false)) else (some false)) else (some false)) = some r := by rw [if_pos (show (none : Option Int).isNone = true by rfl)] at H; exact H
                          clear H
                          have H := H1
                          clear H1
                          try simp only [errW_none, errW_some]
                          by_cases c22 : (IntKind.u64.wrap ((IntKind.u64.wrap (t166 + t169)) + t158)) = 1
                          · rw [if_pos c22] at H
                            have c22b0 : ((IntKind.u64.wrap ((IntKind.u64.wrap (t166 + t169)) + t158)) == 1) = true := beq_iff_eq.mpr c22
                            have c22b1 : ((IntKind.u64.wrap ((IntKind.u64.wrap (t166 + t169)) + t158)) != 1) = false := bne_eq_false_iff_eq.mpr c22
                            clear c22
                            by_cases c23 : t172 = (IntKind.u64.wrap (t166 + t158))
                            · rw [if_pos c23] at H
                              have c23b0 : (t172 == (IntKind.u64.wrap (t166 + t158))) = true := beq_iff_eq.mpr c23
                              have c23b1 : (t172 != (IntKind.u64.wrap (t166 + t158))) = false := bne_eq_false_iff_eq.mpr c23
                              clear c23
                              by_cases c24 : t175 = (IntKind.u64.wrap (t169 + t158))
                              · rw [if_pos c24] at H
                                have c24b0 : (t175 == (IntKind.u64.wrap (t169 + t158))) = true := beq_iff_eq.mpr c24
                                have c24b1 : (t175 != (IntKind.u64.wrap (t169 + t158))) = false := bne_eq_false_iff_eq.mpr c24
                                clear c24
                                have H' := Aside0.mk H
                                clear H
                                go_wp2_with (first | ((with_reducible refine gate_callee (f := 13) rfl ?_); refine goesL_ (some 75) rfl rfl Tryd.func13 (by kernel_rfl) rfl #[.int .i64 (wrap64 ((wrap64 (x8_4 + 2)) + x16_3)), .slice Ao13 y155.length co13] rfl (by (try simp only [List.map_toArray, List.map_cons, List.map_nil]); first | done | rfl | (simp only [List.length_drop, List.length_take]; rfl)) ?_; (with_reducible refine (num_Eval.calls k3 (wrap64 ((wrap64 (x8_4 + 2)) + x16_3)) _ _ y155 t166 t167 none _ (GL_at HGL.out (by repeat (first | (with_reducible first | exact HB.out | apply below_alloc | apply pw_below_drewN | apply below_drew1) | exact HB.out))) ?side1 ?side2 A18.out).mono ?_); (case side1 => repeat (first | exact (Kd.R_reads' HO_9.out).2.2 | (with_reducible refine Kd.C_alloc ?_ _) | (with_reducible refine Kd.C_drewN ?_ _) | (with_reducible refine Kd.C_drew ?_))); (case side2 => exact (Kd.R_reads' HO_9.out).2.1); rintro e w25 ⟨rfl, hb⟩; refine ⟨_, rfl, ?_⟩; have n0_ := Aside0.mk (Kd.R_below (by (with_reducible repeat (first | apply Kd.R_alloc | apply Kd.R_drewN | apply Kd.R_drew)); exact HO_9.out) hb); have n1_ := Aside0.mk (below_step (by repeat (first | (with_reducible first | exact HB.out | apply below_alloc | apply pw_below_drewN | apply below_drew1) | exact HB.out)) hb); clear HO_9; clear HB; have HO_9 := n0_; have HB := n1_; clear n0_ n1_; (try clear hb); (try clear hb2); (try clear hk); (try clear hi); (try simp only [errW_none, errW_some])) | ((with_reducible refine gate_callee (f := 13) rfl ?_); refine goesL_ (some 85) rfl rfl Tryd.func13 (by kernel_rfl) rfl #[.int .i64 (wrap64 ((wrap64 (x8_4 + 4)) + x16_3)), .slice Ao13 y155.length co13] rfl (by (try simp only [List.map_toArray, List.map_cons, List.map_nil]); first | done | rfl | (simp only [List.length_drop, List.length_take]; rfl)) ?_; (with_reducible refine (num_Eval.calls k3 (wrap64 ((wrap64 (x8_4 + 4)) + x16_3)) _ _ y155 t169 t170 none _ (GL_at HGL.out (by repeat (first | (with_reducible first | exact HB.out | apply below_alloc | apply pw_below_drewN | apply below_drew1) | exact HB.out))) ?side1 ?side2 A19.out).mono ?_); (case side1 => repeat (first | exact (Kd.R_reads' HO_9.out).2.2 | (with_reducible refine Kd.C_alloc ?_ _) | (with_reducible refine Kd.C_drewN ?_ _) | (with_reducible refine Kd.C_drew ?_))); (case side2 => exact (Kd.R_reads' HO_9.out).2.1); rintro e w26 ⟨rfl, hb⟩; refine ⟨_, rfl, ?_⟩; have n0_ := Aside0.mk (Kd.R_below (by (with_reducible repeat (first | apply Kd.R_alloc | apply Kd.R_drewN | apply Kd.R_drew)); exact HO_9.out) hb); have n1_ := Aside0.mk (below_step (by repeat (first | (with_reducible first | exact HB.out | apply below_alloc | apply pw_below_drewN | apply below_drew1) | exact HB.out)) hb); clear HO_9; clear HB; have HO_9 := n0_; have HB := n1_; clear n0_ n1_; (try clear hb); (try clear hb2); (try clear hk); (try clear hi); (try simp only [errW_none, errW_some])) | ((with_reducible refine gate_callee (f := 13) rfl ?_); refine goesL_ (some 95) rfl rfl Tryd.func13 (by kernel_rfl) rfl #[.int .i64 (wrap64 ((wrap64 (x8_4 + 6)) + x16_3)), .slice Ao13 y155.length co13] rfl (by (try simp only [List.map_toArray, List.map_cons, List.map_nil]); first | done | rfl | (simp only [List.length_drop, List.length_take]; rfl)) ?_; (with_reducible refine (num_Eval.calls k3 (wrap64 ((wrap64 (x8_4 + 6)) + x16_3)) _ _ y155 t172 t173 none _ (GL_at HGL.out (by repeat (first | (with_reducible first | exact HB.out | apply below_alloc | apply pw_below_drewN | apply below_drew1) | exact HB.out))) ?side1 ?side2 A20.out).mono ?_); (case side1 => repeat (first | exact (Kd.R_reads' HO_9.out).2.2 | (with_reducible refine Kd.C_alloc ?_ _) | (with_reducible refine Kd.C_drewN ?_ _) | (with_reducible refine Kd.C_drew ?_))); (case side2 => exact (Kd.R_reads' HO_9.out).2.1); rintro e w27 ⟨rfl, hb⟩; refine ⟨_, rfl, ?_⟩; have n0_ := Aside0.mk (Kd.R_below (by (with_reducible repeat (first | apply Kd.R_alloc | apply Kd.R_drewN | apply Kd.R_drew)); exact HO_9.out) hb); have n1_ := Aside0.mk (below_step (by repeat (first | (with_reducible first | exact HB.out | apply below_alloc | apply pw_below_drewN | apply below_drew1) | exact HB.out)) hb); clear HO_9; clear HB; have HO_9 := n0_; have HB := n1_; clear n0_ n1_; (try clear hb); (try clear hb2); (try clear hk); (try clear hi); (try simp only [errW_none, errW_some])) | ((with_reducible refine gate_callee (f := 13) rfl ?_); refine goesL_ (some 105) rfl rfl Tryd.func13 (by kernel_rfl) rfl #[.int .i64 (wrap64 ((wrap64 (x8_4 + 8)) + x16_3)), .slice Ao13 y155.length co13] rfl (by (try simp only [List.map_toArray, List.map_cons, List.map_nil]); first | done | rfl | (simp only [List.length_drop, List.length_take]; rfl)) ?_; (with_reducible refine (num_Eval.calls k3 (wrap64 ((wrap64 (x8_4 + 8)) + x16_3)) _ _ y155 t175 t176 none _ (GL_at HGL.out (by repeat (first | (with_reducible first | exact HB.out | apply below_alloc | apply pw_below_drewN | apply below_drew1) | exact HB.out))) ?side1 ?side2 A21.out).mono ?_); (case side1 => repeat (first | exact (Kd.R_reads' HO_9.out).2.2 | (with_reducible refine Kd.C_alloc ?_ _) | (with_reducible refine Kd.C_drewN ?_ _) | (with_reducible refine Kd.C_drew ?_))); (case side2 => exact (Kd.R_reads' HO_9.out).2.1); rintro e w28 ⟨rfl, hb⟩; refine ⟨_, rfl, ?_⟩; have n0_ := Aside0.mk (Kd.R_below (by (with_reducible repeat (first | apply Kd.R_alloc | apply Kd.R_drewN | apply Kd.R_drew)); exact HO_9.out) hb); have n1_ := Aside0.mk (below_step (by repeat (first | (with_reducible first | exact HB.out | apply below_alloc | apply pw_below_drewN | apply below_drew1) | exact HB.out)) hb); clear HO_9; clear HB; have HO_9 := n0_; have HB := n1_; clear n0_ n1_; (try clear hb); (try clear hb2); (try clear hk); (try clear hi); (try simp only [errW_none, errW_some])))
                                go_roundg k3
                                case measure => have := HJ4.out; have := HJ9.out; have := HK3.out; omega
                                case rel => exact ⟨(wrap64 (x16_3 + 1)), (by first | rfl | (simp; done) | (simp [*]; done)), H', ⟨by have := HJ4.out; have := HJ9.out; have := HK3.out; omega⟩, ⟨by (with_reducible repeat (first | apply Kd.R_alloc | apply Kd.R_drewN | apply Kd.R_drew)); exact HO_9.out⟩, ⟨by repeat (first | (with_reducible first | exact HB.out | apply below_alloc | apply pw_below_drewN | apply below_drew1) | exact HB.out)⟩⟩
                              · rw [if_neg c24] at H
                                have c24b0 : (t175 == (IntKind.u64.wrap (t169 + t158))) = false := beq_eq_false_iff_ne.mpr c24
                                have c24b1 : (t175 != (IntKind.u64.wrap (t169 + t158))) = true := bne_iff_ne.mpr c24
                                exact absurd ((Option.some.inj H).trans HRT.out) (by decide)
                            · rw [if_neg c23] at H
                              have c23b0 : (t172 == (IntKind.u64.wrap (t166 + t158))) = false := beq_eq_false_iff_ne.mpr c23
                              have c23b1 : (t172 != (IntKind.u64.wrap (t166 + t158))) = true := bne_iff_ne.mpr c23
                              exact absurd ((Option.some.inj H).trans HRT.out) (by decide)
                          · rw [if_neg c22] at H
                            have c22b0 : ((IntKind.u64.wrap ((IntKind.u64.wrap (t166 + t169)) + t158)) == 1) = false := beq_eq_false_iff_ne.mpr c22
                            have c22b1 : ((IntKind.u64.wrap ((IntKind.u64.wrap (t166 + t169)) + t158)) != 1) = true := bne_iff_ne.mpr c22
                            exact absurd ((Option.some.inj H).trans HRT.out) (by decide)
                        · have H1 : (some false) = some r := by rw [if_neg (show ¬ (some q181).isNone = true by simp)] at H; exact H
                          clear H
                          have H := H1
                          clear H1
                          try simp only [errW_none, errW_some]
                          exact absurd ((Option.some.inj H).trans HRT.out) (by decide)
                      · have H1 : (some false) = some r := by rw [if_neg (show ¬ (some q180).isNone = true by simp)] at H; exact H
                        clear H
                        have H := H1
                        clear H1
                        try simp only [errW_none, errW_some]
                        exact absurd ((Option.some.inj H).trans HRT.out) (by decide)
                    · have H1 : (some false) = some r := by rw [if_neg (show ¬ (some q179).isNone = true by simp)] at H; exact H
                      clear H
                      have H := H1
                      clear H1
                      try simp only [errW_none, errW_some]
                      exact absurd ((Option.some.inj H).trans HRT.out) (by decide)
                  · have H1 : (some false) = some r := by rw [if_neg (show ¬ (some q178).isNone = true by simp)] at H; exact H
                    clear H
                    have H := H1
                    clear H1
                    try simp only [errW_none, errW_some]
                    exact absurd ((Option.some.inj H).trans HRT.out) (by decide)
                · rw [if_neg c17] at H
                  have c17b0 : decide (x16_3 < 2) = false := decide_eq_false c17
                  clear c17
                  obtain rfl := Option.some.inj H
                  go_wp2
                  go_ret
                  exact ⟨by first | rfl | (simp [errW_none, errW_some] <;> rfl) | (simp [*, errW_none, errW_some] <;> rfl), by repeat (first | (with_reducible first | exact HB.out | apply below_alloc | apply pw_below_drewN | apply below_drew1) | exact HB.out)⟩

/-- THE ONE PURE STATEMENT of grommetlaw03_NumOrder: yours. -/
def grommetlaw03_NumOrder.Pure : Prop := ∀ (a0 : Int) (a1 : Int) (a2 : Bool), (Lit.int .u64 a0).wf = true → (Lit.int .u64 a1).wf = true → ∃ k, grommetlaw03_NumOrder.f k a0 a1 a2 = some true
theorem grommetlaw03_NumOrder.walk (P : grommetlaw03_NumOrder.Pure) (a0 : Int) (a1 : Int) (a2 : Bool) (w : World) (hG : GL w) (w0 : (Lit.int .u64 a0).wf = true) (w1 : (Lit.int .u64 a1).wf = true) :
    Calls Tryd.prog 7 #[.int .u64 a0, .int .u64 a1, .bool a2] w fun e w' => e = .returned (.bool true) ∧ Below w.heap.size w w' := by
  obtain ⟨k, h⟩ := P a0 a1 a2 w0 w1
  refine (grommetlaw03_NumOrder.calls k a0 a1 a2 true w hG h rfl).mono ?_
  rintro e w' ⟨rfl, hd⟩
  exact ⟨rfl, hd⟩

end Go.Proofs.YtgplakhkofchiaaDoor.RNumOrder
