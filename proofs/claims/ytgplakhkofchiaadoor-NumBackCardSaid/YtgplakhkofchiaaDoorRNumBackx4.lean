-- Made by the program wip/patchprint.py (this session's own, over the kit's print)
import Derived.Test.YtgplakhkofchiaaDoorRNumBackx0
import Derived.Test.YtgplakhkofchiaaDoorRNumBackx3
namespace Go.Proofs.YtgplakhkofchiaaDoor.RNumBack
open Go.RowKit Go.Proofs.YtgplakhkofchiaaDoor.Man Go.Proofs.YtgplakhkofchiaaDoorW.PrintWords Go.Proofs.YtgplakhkofchiaaDoorW.PrintLast Go.Proofs.YtgplakhkofchiaaDoorW.PrintMore
attribute [local go_sem] max2_int min2_int max_two min_two max_three min_three max_four min_four   -- for this text's walks alone
set_option linter.unusedVariables false
set_option linter.unusedSimpArgs false
set_option linter.unnecessarySimpa false

attribute [local simp] shl_zero
/-! ### grommetlaw03_up: function 10 -/
def grommetlaw03_up.f (k : Nat)  : Option (Bool) := (num_Eval.f k 109 (([2147483648, 4294967295] : List Int))).bind fun bt143 => ((num_Eval.f k 117 (([2147483648, 33] : List Int))).bind fun bt149 => (if bt143.2.2.isNone = true then (if bt143.2.1 = 3 then (if bt149.2.2.isNone = true then (some (bt149.1 == 3221225472)) else (some false)) else (some false)) else (some false)))
theorem grommetlaw03_up.mono : ∀ k, LeO (grommetlaw03_up.f k ) (grommetlaw03_up.f (k + 1) ) := by
  intro  k
  unfold grommetlaw03_up.f
  repeat' first
      | (with_reducible exact num_Eval.mono _ _ _)
      | (with_reducible exact LeO.refl _)
      | (with_reducible exact LeO.none _)
      | (with_reducible refine LeO.ite ?_ ?_)
      | (with_reducible refine LeO.bind ?_ (fun _ => ?_))
      | exact num_Eval.mono _ _ _
      | exact LeO.none _
      | refine LeO.ite ?_ ?_
      | refine LeO.bind ?_ (fun _ => ?_)
set_option maxHeartbeats 8000000 in
set_option maxRecDepth 100000 in
theorem grommetlaw03_up.calls (k : Nat)  (r : Bool) (w : World) (hG : GL w) (h : grommetlaw03_up.f k  = some r) :
    Calls Tryd.prog 10 #[] w fun e w' => e = .returned (.bool r) ∧ Below w.heap.size w w' := by
  have hu30 := Tryd.underlying30
  have hu33 := Tryd.underlying33
  have HGL := Aside0.mk hG
  clear hG
  have HB := Aside0.mk (Below.refl w.heap.size w)
  have H : ((num_Eval.f k 109 (([2147483648, 4294967295] : List Int))).bind fun bt143 => ((num_Eval.f k 117 (([2147483648, 33] : List Int))).bind fun bt149 => (if bt143.2.2.isNone = true then (if bt143.2.1 = 3 then (if bt149.2.2.isNone = true then (some (bt149.1 == 3221225472)) else (some false)) else (some false)) else (some false)))) = some r := h
  clear h
  obtain ⟨y140, hy140⟩ : ∃ y_ : List Int, y_ = (([2147483648, 4294967295] : List Int)) := ⟨_, rfl⟩
  replace H : ((num_Eval.f k 109 y140).bind fun bt143 => ((num_Eval.f k 117 (([2147483648, 33] : List Int))).bind fun bt149 => (if bt143.2.2.isNone = true then (if bt143.2.1 = 3 then (if bt149.2.2.isNone = true then (some (bt149.1 == 3221225472)) else (some false)) else (some false)) else (some false)))) = some r := by first | (rw [hy140]; with_reducible exact H) | (have H2_ := (Option.bind_some _ _).symm.trans H; rw [hy140]; with_reducible exact H2_) | (have H2_ := (Option.bind_some _ _).symm.trans H; with_reducible exact H2_) | with_reducible exact H | (rw [hy140]; exact H) | exact H
  have Ny140 := Aside0.mk hy140
  clear hy140
  replace H := Option.bind_eq_some_iff.mp H
  obtain ⟨⟨t143, t144, t145⟩, A10, H⟩ := H
  replace H : ((num_Eval.f k 117 (([2147483648, 33] : List Int))).bind fun bt149 => (if t145.isNone = true then (if t144 = 3 then (if bt149.2.2.isNone = true then (some (bt149.1 == 3221225472)) else (some false)) else (some false)) else (some false))) = some r := H
  have A1 := Aside0.mk A10
  clear A10
  obtain ⟨y146, hy146⟩ : ∃ y_ : List Int, y_ = (([2147483648, 33] : List Int)) := ⟨_, rfl⟩
  replace H : ((num_Eval.f k 117 y146).bind fun bt149 => (if t145.isNone = true then (if t144 = 3 then (if bt149.2.2.isNone = true then (some (bt149.1 == 3221225472)) else (some false)) else (some false)) else (some false))) = some r := by first | (rw [hy146]; with_reducible exact H) | (have H2_ := (Option.bind_some _ _).symm.trans H; rw [hy146]; with_reducible exact H2_) | (have H2_ := (Option.bind_some _ _).symm.trans H; with_reducible exact H2_) | with_reducible exact H | (rw [hy146]; exact H) | exact H
  have Ny146 := Aside0.mk hy146
  clear hy146
  replace H := Option.bind_eq_some_iff.mp H
  obtain ⟨⟨t149, t150, t151⟩, A20, H⟩ := H
  replace H : (if t145.isNone = true then (if t144 = 3 then (if t151.isNone = true then (some (t149 == 3221225472)) else (some false)) else (some false)) else (some false)) = some r := H
  have A2 := Aside0.mk A20
  clear A20
  rcases t145 with _ | q152
  · have H1 : (if t144 = 3 then (if t151.isNone = true then (some (t149 == 3221225472)) else (some false)) else (some false)) = some r := by rw [if_pos (show (none : Option Int).isNone = true by rfl)] at H; exact H
    clear H
    have H := H1
    clear H1
    try simp only [errW_none, errW_some]
    by_cases c3 : t144 = 3
    · rw [if_pos c3] at H
      have c3b0 : (t144 == 3) = true := beq_iff_eq.mpr c3
      have c3b1 : (t144 != 3) = false := bne_eq_false_iff_eq.mpr c3
      clear c3
      rcases t151 with _ | q153
      · have H1 : (some (t149 == 3221225472)) = some r := by rw [if_pos (show (none : Option Int).isNone = true by rfl)] at H; exact H
        clear H
        have H := H1
        clear H1
        try simp only [errW_none, errW_some]
        obtain rfl := Option.some.inj H
        go_enter Tryd.func10, Tryd.ntmps10
        go_wp2_with (first | ((with_reducible refine gate_dst (N := 8) rfl ?_); refine Kd.R_lit (Kd.int .u64) _ 28 ?hg (N := 8) ?hd (xs := ([2147483648, 4294967295] : List Int)) (inner := [.int .u64 2147483648, .int .u64 4294967295]) (ok := fun _ => True) (okp := fun _ => True) ?hr ?hp (fun _ hk => hk) trivial (Below.refl _ _) (Nat.le_refl _) (by simp) ?_; (case hd => rfl); (case hg => rfl); (case hr => first | (go_simp; done) | (go_simp; rfl)); (case hp => exact (Reps.one (show Kd.M (Kd.int .u64) _ _ _ 2147483648 [.int .u64 2147483648] from rfl) (Reps.one (show Kd.M (Kd.int .u64) _ _ _ 4294967295 [.int .u64 4294967295] from rfl) (Reps.none _ _)))); intro v141 w4 ho5 hb hg_ hnew_; clear hg_ hnew_; (first | rw [← Ny140.out] at ho5 | (simp only [Int.reduceToNat] at ho5; rw [← Ny140.out] at ho5)); have n0_ := Aside0.mk (Kd.R_lower ho5 (below_size (by repeat (first | (with_reducible first | exact HB.out | apply below_alloc | apply pw_below_drewN | apply below_drew1) | exact HB.out)))); have n1_ := Aside0.mk (below_step (by repeat (first | (with_reducible first | exact HB.out | apply below_alloc | apply pw_below_drewN | apply below_drew1) | exact HB.out)) hb); clear HB; have HO142 := n0_; have HB := n1_; clear n0_ n1_; clear hb ho5; obtain ⟨Ao6, co6, eo6⟩ := Kd.R_slice HO142.out; subst eo6) | ((with_reducible refine gate_callee (f := 13) rfl ?_); refine goesL_ (some 9) rfl rfl Tryd.func13 (by kernel_rfl) rfl #[.int .i64 109, .slice Ao6 y140.length co6] rfl (by (try simp only [List.map_toArray, List.map_cons, List.map_nil]); first | done | rfl | (simp only [List.length_drop, List.length_take]; rfl)) ?_; (with_reducible refine (num_Eval.calls k 109 _ _ y140 t143 t144 none _ (GL_at HGL.out (by repeat (first | (with_reducible first | exact HB.out | apply below_alloc | apply pw_below_drewN | apply below_drew1) | exact HB.out))) ?side1 ?side2 A1.out).mono ?_); (case side1 => repeat (first | exact (Kd.R_reads' HO142.out).2.2 | (with_reducible refine Kd.C_alloc ?_ _) | (with_reducible refine Kd.C_drewN ?_ _) | (with_reducible refine Kd.C_drew ?_))); (case side2 => exact (Kd.R_reads' HO142.out).2.1); rintro e w7 ⟨rfl, hb⟩; refine ⟨_, rfl, ?_⟩; have n0_ := Aside0.mk (Kd.R_below (by (with_reducible repeat (first | apply Kd.R_alloc | apply Kd.R_drewN | apply Kd.R_drew)); exact HO142.out) hb); have n1_ := Aside0.mk (below_step (by repeat (first | (with_reducible first | exact HB.out | apply below_alloc | apply pw_below_drewN | apply below_drew1) | exact HB.out)) hb); clear HO142; clear HB; have HO142 := n0_; have HB := n1_; clear n0_ n1_; (try clear hb); (try clear hb2); (try clear hk); (try clear hi); (try simp only [errW_none, errW_some])) | ((with_reducible refine gate_dst (N := 14) rfl ?_); refine Kd.R_lit (Kd.int .u64) _ 28 ?hg (N := 14) ?hd (xs := ([2147483648, 33] : List Int)) (inner := [.int .u64 2147483648, .int .u64 33]) (ok := fun _ => True) (okp := fun _ => True) ?hr ?hp (fun _ hk => hk) trivial (Below.refl _ _) (Nat.le_refl _) (by simp) ?_; (case hd => rfl); (case hg => rfl); (case hr => first | (go_simp; done) | (go_simp; rfl)); (case hp => exact (Reps.one (show Kd.M (Kd.int .u64) _ _ _ 2147483648 [.int .u64 2147483648] from rfl) (Reps.one (show Kd.M (Kd.int .u64) _ _ _ 33 [.int .u64 33] from rfl) (Reps.none _ _)))); intro v147 w8 ho9 hb hg_ hnew_; clear hg_ hnew_; (first | rw [← Ny146.out] at ho9 | (simp only [Int.reduceToNat] at ho9; rw [← Ny146.out] at ho9)); have n0_ := Aside0.mk (Kd.R_elder' (by (with_reducible repeat (first | apply Kd.R_alloc | apply Kd.R_drewN | apply Kd.R_drew)); exact HO142.out) (Kd.R_base ho9) hb); have n1_ := Aside0.mk (Kd.R_lower (Kd.R_new' ho9 (Kd.R_lt (by (with_reducible repeat (first | apply Kd.R_alloc | apply Kd.R_drewN | apply Kd.R_drew)); exact HO142.out))) (below_size (by repeat (first | (with_reducible first | exact HB.out | apply below_alloc | apply pw_below_drewN | apply below_drew1) | exact HB.out)))); have n2_ := Aside0.mk (below_step (by repeat (first | (with_reducible first | exact HB.out | apply below_alloc | apply pw_below_drewN | apply below_drew1) | exact HB.out)) hb); clear HO142; clear HB; have HO142 := n0_; have HO148 := n1_; have HB := n2_; clear n0_ n1_ n2_; clear hb ho9; obtain ⟨Ao10, co10, eo10⟩ := Kd.R_slice HO148.out; subst eo10) | ((with_reducible refine gate_callee (f := 13) rfl ?_); refine goesL_ (some 15) rfl rfl Tryd.func13 (by kernel_rfl) rfl #[.int .i64 117, .slice Ao10 y146.length co10] rfl (by (try simp only [List.map_toArray, List.map_cons, List.map_nil]); first | done | rfl | (simp only [List.length_drop, List.length_take]; rfl)) ?_; (with_reducible refine (num_Eval.calls k 117 _ _ y146 t149 t150 none _ (GL_at HGL.out (by repeat (first | (with_reducible first | exact HB.out | apply below_alloc | apply pw_below_drewN | apply below_drew1) | exact HB.out))) ?side1 ?side2 A2.out).mono ?_); (case side1 => repeat (first | exact (Kd.R_reads' HO148.out).2.2 | (with_reducible refine Kd.C_alloc ?_ _) | (with_reducible refine Kd.C_drewN ?_ _) | (with_reducible refine Kd.C_drew ?_))); (case side2 => exact (Kd.R_reads' HO148.out).2.1); rintro e w11 ⟨rfl, hb⟩; refine ⟨_, rfl, ?_⟩; have n0_ := Aside0.mk (Kd.R_below (by (with_reducible repeat (first | apply Kd.R_alloc | apply Kd.R_drewN | apply Kd.R_drew)); exact HO142.out) hb); have n1_ := Aside0.mk (Kd.R_below (by (with_reducible repeat (first | apply Kd.R_alloc | apply Kd.R_drewN | apply Kd.R_drew)); exact HO148.out) hb); have n2_ := Aside0.mk (below_step (by repeat (first | (with_reducible first | exact HB.out | apply below_alloc | apply pw_below_drewN | apply below_drew1) | exact HB.out)) hb); clear HO142; clear HO148; clear HB; have HO142 := n0_; have HO148 := n1_; have HB := n2_; clear n0_ n1_ n2_; (try clear hb); (try clear hb2); (try clear hk); (try clear hi); (try simp only [errW_none, errW_some])))
        go_ret
        exact ⟨by first | rfl | (simp [errW_none, errW_some] <;> rfl) | (simp [*, errW_none, errW_some] <;> rfl), by repeat (first | (with_reducible first | exact HB.out | apply below_alloc | apply pw_below_drewN | apply below_drew1) | exact HB.out)⟩
      · have H1 : (some false) = some r := by rw [if_neg (show ¬ (some q153).isNone = true by simp)] at H; exact H
        clear H
        have H := H1
        clear H1
        try simp only [errW_none, errW_some]
        obtain rfl := Option.some.inj H
        go_enter Tryd.func10, Tryd.ntmps10
        go_wp2_with (first | ((with_reducible refine gate_dst (N := 8) rfl ?_); refine Kd.R_lit (Kd.int .u64) _ 28 ?hg (N := 8) ?hd (xs := ([2147483648, 4294967295] : List Int)) (inner := [.int .u64 2147483648, .int .u64 4294967295]) (ok := fun _ => True) (okp := fun _ => True) ?hr ?hp (fun _ hk => hk) trivial (Below.refl _ _) (Nat.le_refl _) (by simp) ?_; (case hd => rfl); (case hg => rfl); (case hr => first | (go_simp; done) | (go_simp; rfl)); (case hp => exact (Reps.one (show Kd.M (Kd.int .u64) _ _ _ 2147483648 [.int .u64 2147483648] from rfl) (Reps.one (show Kd.M (Kd.int .u64) _ _ _ 4294967295 [.int .u64 4294967295] from rfl) (Reps.none _ _)))); intro v141 w12 ho13 hb hg_ hnew_; clear hg_ hnew_; (first | rw [← Ny140.out] at ho13 | (simp only [Int.reduceToNat] at ho13; rw [← Ny140.out] at ho13)); have n0_ := Aside0.mk (Kd.R_lower ho13 (below_size (by repeat (first | (with_reducible first | exact HB.out | apply below_alloc | apply pw_below_drewN | apply below_drew1) | exact HB.out)))); have n1_ := Aside0.mk (below_step (by repeat (first | (with_reducible first | exact HB.out | apply below_alloc | apply pw_below_drewN | apply below_drew1) | exact HB.out)) hb); clear HB; have HO142 := n0_; have HB := n1_; clear n0_ n1_; clear hb ho13; obtain ⟨Ao14, co14, eo14⟩ := Kd.R_slice HO142.out; subst eo14) | ((with_reducible refine gate_callee (f := 13) rfl ?_); refine goesL_ (some 9) rfl rfl Tryd.func13 (by kernel_rfl) rfl #[.int .i64 109, .slice Ao14 y140.length co14] rfl (by (try simp only [List.map_toArray, List.map_cons, List.map_nil]); first | done | rfl | (simp only [List.length_drop, List.length_take]; rfl)) ?_; (with_reducible refine (num_Eval.calls k 109 _ _ y140 t143 t144 none _ (GL_at HGL.out (by repeat (first | (with_reducible first | exact HB.out | apply below_alloc | apply pw_below_drewN | apply below_drew1) | exact HB.out))) ?side1 ?side2 A1.out).mono ?_); (case side1 => repeat (first | exact (Kd.R_reads' HO142.out).2.2 | (with_reducible refine Kd.C_alloc ?_ _) | (with_reducible refine Kd.C_drewN ?_ _) | (with_reducible refine Kd.C_drew ?_))); (case side2 => exact (Kd.R_reads' HO142.out).2.1); rintro e w15 ⟨rfl, hb⟩; refine ⟨_, rfl, ?_⟩; have n0_ := Aside0.mk (Kd.R_below (by (with_reducible repeat (first | apply Kd.R_alloc | apply Kd.R_drewN | apply Kd.R_drew)); exact HO142.out) hb); have n1_ := Aside0.mk (below_step (by repeat (first | (with_reducible first | exact HB.out | apply below_alloc | apply pw_below_drewN | apply below_drew1) | exact HB.out)) hb); clear HO142; clear HB; have HO142 := n0_; have HB := n1_; clear n0_ n1_; (try clear hb); (try clear hb2); (try clear hk); (try clear hi); (try simp only [errW_none, errW_some])) | ((with_reducible refine gate_dst (N := 14) rfl ?_); refine Kd.R_lit (Kd.int .u64) _ 28 ?hg (N := 14) ?hd (xs := ([2147483648, 33] : List Int)) (inner := [.int .u64 2147483648, .int .u64 33]) (ok := fun _ => True) (okp := fun _ => True) ?hr ?hp (fun _ hk => hk) trivial (Below.refl _ _) (Nat.le_refl _) (by simp) ?_; (case hd => rfl); (case hg => rfl); (case hr => first | (go_simp; done) | (go_simp; rfl)); (case hp => exact (Reps.one (show Kd.M (Kd.int .u64) _ _ _ 2147483648 [.int .u64 2147483648] from rfl) (Reps.one (show Kd.M (Kd.int .u64) _ _ _ 33 [.int .u64 33] from rfl) (Reps.none _ _)))); intro v147 w16 ho17 hb hg_ hnew_; clear hg_ hnew_; (first | rw [← Ny146.out] at ho17 | (simp only [Int.reduceToNat] at ho17; rw [← Ny146.out] at ho17)); have n0_ := Aside0.mk (Kd.R_elder' (by (with_reducible repeat (first | apply Kd.R_alloc | apply Kd.R_drewN | apply Kd.R_drew)); exact HO142.out) (Kd.R_base ho17) hb); have n1_ := Aside0.mk (Kd.R_lower (Kd.R_new' ho17 (Kd.R_lt (by (with_reducible repeat (first | apply Kd.R_alloc | apply Kd.R_drewN | apply Kd.R_drew)); exact HO142.out))) (below_size (by repeat (first | (with_reducible first | exact HB.out | apply below_alloc | apply pw_below_drewN | apply below_drew1) | exact HB.out)))); have n2_ := Aside0.mk (below_step (by repeat (first | (with_reducible first | exact HB.out | apply below_alloc | apply pw_below_drewN | apply below_drew1) | exact HB.out)) hb); clear HO142; clear HB; have HO142 := n0_; have HO148 := n1_; have HB := n2_; clear n0_ n1_ n2_; clear hb ho17; obtain ⟨Ao18, co18, eo18⟩ := Kd.R_slice HO148.out; subst eo18) | ((with_reducible refine gate_callee (f := 13) rfl ?_); refine goesL_ (some 15) rfl rfl Tryd.func13 (by kernel_rfl) rfl #[.int .i64 117, .slice Ao18 y146.length co18] rfl (by (try simp only [List.map_toArray, List.map_cons, List.map_nil]); first | done | rfl | (simp only [List.length_drop, List.length_take]; rfl)) ?_; (with_reducible refine (num_Eval.calls k 117 _ _ y146 t149 t150 (some q153) _ (GL_at HGL.out (by repeat (first | (with_reducible first | exact HB.out | apply below_alloc | apply pw_below_drewN | apply below_drew1) | exact HB.out))) ?side1 ?side2 A2.out).mono ?_); (case side1 => repeat (first | exact (Kd.R_reads' HO148.out).2.2 | (with_reducible refine Kd.C_alloc ?_ _) | (with_reducible refine Kd.C_drewN ?_ _) | (with_reducible refine Kd.C_drew ?_))); (case side2 => exact (Kd.R_reads' HO148.out).2.1); rintro e w19 ⟨rfl, hb⟩; refine ⟨_, rfl, ?_⟩; have n0_ := Aside0.mk (Kd.R_below (by (with_reducible repeat (first | apply Kd.R_alloc | apply Kd.R_drewN | apply Kd.R_drew)); exact HO142.out) hb); have n1_ := Aside0.mk (Kd.R_below (by (with_reducible repeat (first | apply Kd.R_alloc | apply Kd.R_drewN | apply Kd.R_drew)); exact HO148.out) hb); have n2_ := Aside0.mk (below_step (by repeat (first | (with_reducible first | exact HB.out | apply below_alloc | apply pw_below_drewN | apply below_drew1) | exact HB.out)) hb); clear HO142; clear HO148; clear HB; have HO142 := n0_; have HO148 := n1_; have HB := n2_; clear n0_ n1_ n2_; (try clear hb); (try clear hb2); (try clear hk); (try clear hi); (try simp only [errW_none, errW_some])))
        go_ret
        exact ⟨by first | rfl | (simp [errW_none, errW_some] <;> rfl) | (simp [*, errW_none, errW_some] <;> rfl), by repeat (first | (with_reducible first | exact HB.out | apply below_alloc | apply pw_below_drewN | apply below_drew1) | exact HB.out)⟩
    · rw [if_neg c3] at H
      have c3b0 : (t144 == 3) = false := beq_eq_false_iff_ne.mpr c3
      have c3b1 : (t144 != 3) = true := bne_iff_ne.mpr c3
      obtain rfl := Option.some.inj H
      go_enter Tryd.func10, Tryd.ntmps10
      go_wp2_with (first | ((with_reducible refine gate_dst (N := 8) rfl ?_); refine Kd.R_lit (Kd.int .u64) _ 28 ?hg (N := 8) ?hd (xs := ([2147483648, 4294967295] : List Int)) (inner := [.int .u64 2147483648, .int .u64 4294967295]) (ok := fun _ => True) (okp := fun _ => True) ?hr ?hp (fun _ hk => hk) trivial (Below.refl _ _) (Nat.le_refl _) (by simp) ?_; (case hd => rfl); (case hg => rfl); (case hr => first | (go_simp; done) | (go_simp; rfl)); (case hp => exact (Reps.one (show Kd.M (Kd.int .u64) _ _ _ 2147483648 [.int .u64 2147483648] from rfl) (Reps.one (show Kd.M (Kd.int .u64) _ _ _ 4294967295 [.int .u64 4294967295] from rfl) (Reps.none _ _)))); intro v141 w20 ho21 hb hg_ hnew_; clear hg_ hnew_; (first | rw [← Ny140.out] at ho21 | (simp only [Int.reduceToNat] at ho21; rw [← Ny140.out] at ho21)); have n0_ := Aside0.mk (Kd.R_lower ho21 (below_size (by repeat (first | (with_reducible first | exact HB.out | apply below_alloc | apply pw_below_drewN | apply below_drew1) | exact HB.out)))); have n1_ := Aside0.mk (below_step (by repeat (first | (with_reducible first | exact HB.out | apply below_alloc | apply pw_below_drewN | apply below_drew1) | exact HB.out)) hb); clear HB; have HO142 := n0_; have HB := n1_; clear n0_ n1_; clear hb ho21; obtain ⟨Ao22, co22, eo22⟩ := Kd.R_slice HO142.out; subst eo22) | ((with_reducible refine gate_callee (f := 13) rfl ?_); refine goesL_ (some 9) rfl rfl Tryd.func13 (by kernel_rfl) rfl #[.int .i64 109, .slice Ao22 y140.length co22] rfl (by (try simp only [List.map_toArray, List.map_cons, List.map_nil]); first | done | rfl | (simp only [List.length_drop, List.length_take]; rfl)) ?_; (with_reducible refine (num_Eval.calls k 109 _ _ y140 t143 t144 none _ (GL_at HGL.out (by repeat (first | (with_reducible first | exact HB.out | apply below_alloc | apply pw_below_drewN | apply below_drew1) | exact HB.out))) ?side1 ?side2 A1.out).mono ?_); (case side1 => repeat (first | exact (Kd.R_reads' HO142.out).2.2 | (with_reducible refine Kd.C_alloc ?_ _) | (with_reducible refine Kd.C_drewN ?_ _) | (with_reducible refine Kd.C_drew ?_))); (case side2 => exact (Kd.R_reads' HO142.out).2.1); rintro e w23 ⟨rfl, hb⟩; refine ⟨_, rfl, ?_⟩; have n0_ := Aside0.mk (Kd.R_below (by (with_reducible repeat (first | apply Kd.R_alloc | apply Kd.R_drewN | apply Kd.R_drew)); exact HO142.out) hb); have n1_ := Aside0.mk (below_step (by repeat (first | (with_reducible first | exact HB.out | apply below_alloc | apply pw_below_drewN | apply below_drew1) | exact HB.out)) hb); clear HO142; clear HB; have HO142 := n0_; have HB := n1_; clear n0_ n1_; (try clear hb); (try clear hb2); (try clear hk); (try clear hi); (try simp only [errW_none, errW_some])) | ((with_reducible refine gate_dst (N := 14) rfl ?_); refine Kd.R_lit (Kd.int .u64) _ 28 ?hg (N := 14) ?hd (xs := ([2147483648, 33] : List Int)) (inner := [.int .u64 2147483648, .int .u64 33]) (ok := fun _ => True) (okp := fun _ => True) ?hr ?hp (fun _ hk => hk) trivial (Below.refl _ _) (Nat.le_refl _) (by simp) ?_; (case hd => rfl); (case hg => rfl); (case hr => first | (go_simp; done) | (go_simp; rfl)); (case hp => exact (Reps.one (show Kd.M (Kd.int .u64) _ _ _ 2147483648 [.int .u64 2147483648] from rfl) (Reps.one (show Kd.M (Kd.int .u64) _ _ _ 33 [.int .u64 33] from rfl) (Reps.none _ _)))); intro v147 w24 ho25 hb hg_ hnew_; clear hg_ hnew_; (first | rw [← Ny146.out] at ho25 | (simp only [Int.reduceToNat] at ho25; rw [← Ny146.out] at ho25)); have n0_ := Aside0.mk (Kd.R_elder' (by (with_reducible repeat (first | apply Kd.R_alloc | apply Kd.R_drewN | apply Kd.R_drew)); exact HO142.out) (Kd.R_base ho25) hb); have n1_ := Aside0.mk (Kd.R_lower (Kd.R_new' ho25 (Kd.R_lt (by (with_reducible repeat (first | apply Kd.R_alloc | apply Kd.R_drewN | apply Kd.R_drew)); exact HO142.out))) (below_size (by repeat (first | (with_reducible first | exact HB.out | apply below_alloc | apply pw_below_drewN | apply below_drew1) | exact HB.out)))); have n2_ := Aside0.mk (below_step (by repeat (first | (with_reducible first | exact HB.out | apply below_alloc | apply pw_below_drewN | apply below_drew1) | exact HB.out)) hb); clear HO142; clear HB; have HO142 := n0_; have HO148 := n1_; have HB := n2_; clear n0_ n1_ n2_; clear hb ho25; obtain ⟨Ao26, co26, eo26⟩ := Kd.R_slice HO148.out; subst eo26) | ((with_reducible refine gate_callee (f := 13) rfl ?_); refine goesL_ (some 15) rfl rfl Tryd.func13 (by kernel_rfl) rfl #[.int .i64 117, .slice Ao26 y146.length co26] rfl (by (try simp only [List.map_toArray, List.map_cons, List.map_nil]); first | done | rfl | (simp only [List.length_drop, List.length_take]; rfl)) ?_; (with_reducible refine (num_Eval.calls k 117 _ _ y146 t149 t150 t151 _ (GL_at HGL.out (by repeat (first | (with_reducible first | exact HB.out | apply below_alloc | apply pw_below_drewN | apply below_drew1) | exact HB.out))) ?side1 ?side2 A2.out).mono ?_); (case side1 => repeat (first | exact (Kd.R_reads' HO148.out).2.2 | (with_reducible refine Kd.C_alloc ?_ _) | (with_reducible refine Kd.C_drewN ?_ _) | (with_reducible refine Kd.C_drew ?_))); (case side2 => exact (Kd.R_reads' HO148.out).2.1); rintro e w27 ⟨rfl, hb⟩; refine ⟨_, rfl, ?_⟩; have n0_ := Aside0.mk (Kd.R_below (by (with_reducible repeat (first | apply Kd.R_alloc | apply Kd.R_drewN | apply Kd.R_drew)); exact HO142.out) hb); have n1_ := Aside0.mk (Kd.R_below (by (with_reducible repeat (first | apply Kd.R_alloc | apply Kd.R_drewN | apply Kd.R_drew)); exact HO148.out) hb); have n2_ := Aside0.mk (below_step (by repeat (first | (with_reducible first | exact HB.out | apply below_alloc | apply pw_below_drewN | apply below_drew1) | exact HB.out)) hb); clear HO142; clear HO148; clear HB; have HO142 := n0_; have HO148 := n1_; have HB := n2_; clear n0_ n1_ n2_; (try clear hb); (try clear hb2); (try clear hk); (try clear hi); (try simp only [errW_none, errW_some])))
      go_ret
      exact ⟨by first | rfl | (simp [errW_none, errW_some] <;> rfl) | (simp [*, errW_none, errW_some] <;> rfl), by repeat (first | (with_reducible first | exact HB.out | apply below_alloc | apply pw_below_drewN | apply below_drew1) | exact HB.out)⟩
  · have H1 : (some false) = some r := by rw [if_neg (show ¬ (some q152).isNone = true by simp)] at H; exact H
    clear H
    have H := H1
    clear H1
    try simp only [errW_none, errW_some]
    obtain rfl := Option.some.inj H
    go_enter Tryd.func10, Tryd.ntmps10
    go_wp2_with (first | ((with_reducible refine gate_dst (N := 8) rfl ?_); refine Kd.R_lit (Kd.int .u64) _ 28 ?hg (N := 8) ?hd (xs := ([2147483648, 4294967295] : List Int)) (inner := [.int .u64 2147483648, .int .u64 4294967295]) (ok := fun _ => True) (okp := fun _ => True) ?hr ?hp (fun _ hk => hk) trivial (Below.refl _ _) (Nat.le_refl _) (by simp) ?_; (case hd => rfl); (case hg => rfl); (case hr => first | (go_simp; done) | (go_simp; rfl)); (case hp => exact (Reps.one (show Kd.M (Kd.int .u64) _ _ _ 2147483648 [.int .u64 2147483648] from rfl) (Reps.one (show Kd.M (Kd.int .u64) _ _ _ 4294967295 [.int .u64 4294967295] from rfl) (Reps.none _ _)))); intro v141 w28 ho29 hb hg_ hnew_; clear hg_ hnew_; (first | rw [← Ny140.out] at ho29 | (simp only [Int.reduceToNat] at ho29; rw [← Ny140.out] at ho29)); have n0_ := Aside0.mk (Kd.R_lower ho29 (below_size (by repeat (first | (with_reducible first | exact HB.out | apply below_alloc | apply pw_below_drewN | apply below_drew1) | exact HB.out)))); have n1_ := Aside0.mk (below_step (by repeat (first | (with_reducible first | exact HB.out | apply below_alloc | apply pw_below_drewN | apply below_drew1) | exact HB.out)) hb); clear HB; have HO142 := n0_; have HB := n1_; clear n0_ n1_; clear hb ho29; obtain ⟨Ao30, co30, eo30⟩ := Kd.R_slice HO142.out; subst eo30) | ((with_reducible refine gate_callee (f := 13) rfl ?_); refine goesL_ (some 9) rfl rfl Tryd.func13 (by kernel_rfl) rfl #[.int .i64 109, .slice Ao30 y140.length co30] rfl (by (try simp only [List.map_toArray, List.map_cons, List.map_nil]); first | done | rfl | (simp only [List.length_drop, List.length_take]; rfl)) ?_; (with_reducible refine (num_Eval.calls k 109 _ _ y140 t143 t144 (some q152) _ (GL_at HGL.out (by repeat (first | (with_reducible first | exact HB.out | apply below_alloc | apply pw_below_drewN | apply below_drew1) | exact HB.out))) ?side1 ?side2 A1.out).mono ?_); (case side1 => repeat (first | exact (Kd.R_reads' HO142.out).2.2 | (with_reducible refine Kd.C_alloc ?_ _) | (with_reducible refine Kd.C_drewN ?_ _) | (with_reducible refine Kd.C_drew ?_))); (case side2 => exact (Kd.R_reads' HO142.out).2.1); rintro e w31 ⟨rfl, hb⟩; refine ⟨_, rfl, ?_⟩; have n0_ := Aside0.mk (Kd.R_below (by (with_reducible repeat (first | apply Kd.R_alloc | apply Kd.R_drewN | apply Kd.R_drew)); exact HO142.out) hb); have n1_ := Aside0.mk (below_step (by repeat (first | (with_reducible first | exact HB.out | apply below_alloc | apply pw_below_drewN | apply below_drew1) | exact HB.out)) hb); clear HO142; clear HB; have HO142 := n0_; have HB := n1_; clear n0_ n1_; (try clear hb); (try clear hb2); (try clear hk); (try clear hi); (try simp only [errW_none, errW_some])) | ((with_reducible refine gate_dst (N := 14) rfl ?_); refine Kd.R_lit (Kd.int .u64) _ 28 ?hg (N := 14) ?hd (xs := ([2147483648, 33] : List Int)) (inner := [.int .u64 2147483648, .int .u64 33]) (ok := fun _ => True) (okp := fun _ => True) ?hr ?hp (fun _ hk => hk) trivial (Below.refl _ _) (Nat.le_refl _) (by simp) ?_; (case hd => rfl); (case hg => rfl); (case hr => first | (go_simp; done) | (go_simp; rfl)); (case hp => exact (Reps.one (show Kd.M (Kd.int .u64) _ _ _ 2147483648 [.int .u64 2147483648] from rfl) (Reps.one (show Kd.M (Kd.int .u64) _ _ _ 33 [.int .u64 33] from rfl) (Reps.none _ _)))); intro v147 w32 ho33 hb hg_ hnew_; clear hg_ hnew_; (first | rw [← Ny146.out] at ho33 | (simp only [Int.reduceToNat] at ho33; rw [← Ny146.out] at ho33)); have n0_ := Aside0.mk (Kd.R_elder' (by (with_reducible repeat (first | apply Kd.R_alloc | apply Kd.R_drewN | apply Kd.R_drew)); exact HO142.out) (Kd.R_base ho33) hb); have n1_ := Aside0.mk (Kd.R_lower (Kd.R_new' ho33 (Kd.R_lt (by (with_reducible repeat (first | apply Kd.R_alloc | apply Kd.R_drewN | apply Kd.R_drew)); exact HO142.out))) (below_size (by repeat (first | (with_reducible first | exact HB.out | apply below_alloc | apply pw_below_drewN | apply below_drew1) | exact HB.out)))); have n2_ := Aside0.mk (below_step (by repeat (first | (with_reducible first | exact HB.out | apply below_alloc | apply pw_below_drewN | apply below_drew1) | exact HB.out)) hb); clear HO142; clear HB; have HO142 := n0_; have HO148 := n1_; have HB := n2_; clear n0_ n1_ n2_; clear hb ho33; obtain ⟨Ao34, co34, eo34⟩ := Kd.R_slice HO148.out; subst eo34) | ((with_reducible refine gate_callee (f := 13) rfl ?_); refine goesL_ (some 15) rfl rfl Tryd.func13 (by kernel_rfl) rfl #[.int .i64 117, .slice Ao34 y146.length co34] rfl (by (try simp only [List.map_toArray, List.map_cons, List.map_nil]); first | done | rfl | (simp only [List.length_drop, List.length_take]; rfl)) ?_; (with_reducible refine (num_Eval.calls k 117 _ _ y146 t149 t150 t151 _ (GL_at HGL.out (by repeat (first | (with_reducible first | exact HB.out | apply below_alloc | apply pw_below_drewN | apply below_drew1) | exact HB.out))) ?side1 ?side2 A2.out).mono ?_); (case side1 => repeat (first | exact (Kd.R_reads' HO148.out).2.2 | (with_reducible refine Kd.C_alloc ?_ _) | (with_reducible refine Kd.C_drewN ?_ _) | (with_reducible refine Kd.C_drew ?_))); (case side2 => exact (Kd.R_reads' HO148.out).2.1); rintro e w35 ⟨rfl, hb⟩; refine ⟨_, rfl, ?_⟩; have n0_ := Aside0.mk (Kd.R_below (by (with_reducible repeat (first | apply Kd.R_alloc | apply Kd.R_drewN | apply Kd.R_drew)); exact HO142.out) hb); have n1_ := Aside0.mk (Kd.R_below (by (with_reducible repeat (first | apply Kd.R_alloc | apply Kd.R_drewN | apply Kd.R_drew)); exact HO148.out) hb); have n2_ := Aside0.mk (below_step (by repeat (first | (with_reducible first | exact HB.out | apply below_alloc | apply pw_below_drewN | apply below_drew1) | exact HB.out)) hb); clear HO142; clear HO148; clear HB; have HO142 := n0_; have HO148 := n1_; have HB := n2_; clear n0_ n1_ n2_; (try clear hb); (try clear hb2); (try clear hk); (try clear hi); (try simp only [errW_none, errW_some])))
    go_ret
    exact ⟨by first | rfl | (simp [errW_none, errW_some] <;> rfl) | (simp [*, errW_none, errW_some] <;> rfl), by repeat (first | (with_reducible first | exact HB.out | apply below_alloc | apply pw_below_drewN | apply below_drew1) | exact HB.out)⟩

/-! ### grommetlaw03_NumBack: function 6 -/
mutual
def grommetlaw03_NumBack.j0 : Nat → Int → Int → Bool → Int → Option (Bool)
  | 0, _, _, _, _ => none
  | k + 1, x0, x1, x7, x8 => grommetlaw03_NumBack.l0 k x0 x1 x7 x8 0
def grommetlaw03_NumBack.l0 : Nat → Int → Int → Bool → Int → Int → Option (Bool)
  | 0, _, _, _, _, _ => none
  | k + 1, x0, x1, x7, x8, x9 => if x9 < 2 then ((num_Eval.f k (wrap64 ((wrap64 (x8 + 3)) + x9)) (([x0, x1] : List Int))).bind fun bt158 => ((num_Eval.f k (wrap64 ((wrap64 (x8 + 5)) + x9)) (([x0, x1] : List Int))).bind fun bt164 => (if bt158.2.2.isNone = true then (if bt164.2.2.isNone = true then (if bt164.2.1 = 0 then (if x1 = 0 then (grommetlaw03_NumBack.j2 k x0 x1 x7 x8 x9 bt158.1 bt158.2.1 bt164.1 true) else (if bt158.2.1 = 0 then (grommetlaw03_NumBack.j2 k x0 x1 x7 x8 x9 bt158.1 bt158.2.1 bt164.1 (bt164.2.1 != 0)) else (grommetlaw03_NumBack.j2 k x0 x1 x7 x8 x9 bt158.1 bt158.2.1 bt164.1 false))) else (if x1 = 0 then (if bt158.2.1 = 0 then (grommetlaw03_NumBack.j2 k x0 x1 x7 x8 x9 bt158.1 bt158.2.1 bt164.1 (bt164.2.1 != 0)) else (grommetlaw03_NumBack.j2 k x0 x1 x7 x8 x9 bt158.1 bt158.2.1 bt164.1 false)) else (grommetlaw03_NumBack.j2 k x0 x1 x7 x8 x9 bt158.1 bt158.2.1 bt164.1 true))) else (grommetlaw03_NumBack.j2 k x0 x1 x7 x8 x9 bt158.1 bt158.2.1 bt164.1 true)) else (grommetlaw03_NumBack.j2 k x0 x1 x7 x8 x9 bt158.1 bt158.2.1 bt164.1 true)))) else ((num_Eval.f k (wrap64 (x8 + 13)) (([x0, x1] : List Int))).bind fun bt186 => ((num_Eval.f k (wrap64 (x8 + 14)) (([bt186.1, x1] : List Int))).bind fun bt192 => (if bt186.2.2.isNone = true then (if bt192.2.2.isNone = true then (grommetlaw03_NumBack.j3 k x0 x7 (bt192.1 != x0)) else (grommetlaw03_NumBack.j3 k x0 x7 true)) else (grommetlaw03_NumBack.j3 k x0 x7 true))))
def grommetlaw03_NumBack.j2 : Nat → Int → Int → Bool → Int → Int → Int → Int → Int → Bool → Option (Bool)
  | 0, _, _, _, _, _, _, _, _, _ => none
  | k + 1, x0, x1, x7, x8, x9, x10, x11, x13, x92 => if x92 = true then (some false) else (if x11 = 0 then ((num_Eval.f k (wrap64 (x8 + 2)) (([x10, x1] : List Int))).bind fun bt172 => ((num_Eval.f k x8 (([bt172.1, x13] : List Int))).bind fun bt178 => (if bt172.2.2.isNone = true then (if bt178.2.2.isNone = true then (if bt178.1 = x0 then (grommetlaw03_NumBack.l0 k x0 x1 x7 x8 (wrap64 (x9 + 1))) else (some false)) else (some false)) else (some false)))) else (grommetlaw03_NumBack.l0 k x0 x1 x7 x8 (wrap64 (x9 + 1))))
def grommetlaw03_NumBack.j3 : Nat → Int → Bool → Bool → Option (Bool)
  | 0, _, _, _ => none
  | k + 1, x0, x7, x155 => if x155 = true then (some false) else ((num_Eval.f k 172 (([Int.tmod x0 4294967296] : List Int))).bind fun bt200 => ((num_Eval.f k 167 (([bt200.1] : List Int))).bind fun bt206 => ((num_Eval.f k 173 (([Int.tmod x0 4294967296] : List Int))).bind fun bt212 => (if x7 = true then (if bt200.2.2.isNone = true then (if bt206.2.2.isNone = true then (if bt212.2.2.isNone = true then (if bt206.1 = (Int.tmod x0 4294967296) then (some (bt212.1 == (Int.tmod x0 4294967296))) else (some false)) else (some false)) else (some false)) else (some false)) else (some false)))))
end
def grommetlaw03_NumBack.f (k : Nat) (a0 : Int) (a1 : Int) (a2 : Bool) : Option (Bool) := (grommetlaw03_up.f k).bind fun t154 => (if a2 = true then (grommetlaw03_NumBack.j0 k a0 a1 t154 124) else (grommetlaw03_NumBack.j0 k (Int.tmod a0 4294967296) (Int.tmod a1 4294967296) t154 106))
theorem grommetlaw03_NumBack.mono_l : ∀ k, (∀ y0 y1 y2 y3, LeO (grommetlaw03_NumBack.j0 k y0 y1 y2 y3) (grommetlaw03_NumBack.j0 (k + 1) y0 y1 y2 y3)) ∧ (∀ y0 y1 y2 y3 y4, LeO (grommetlaw03_NumBack.l0 k y0 y1 y2 y3 y4) (grommetlaw03_NumBack.l0 (k + 1) y0 y1 y2 y3 y4)) ∧ (∀ y0 y1 y2 y3 y4 y5 y6 y7 y8, LeO (grommetlaw03_NumBack.j2 k y0 y1 y2 y3 y4 y5 y6 y7 y8) (grommetlaw03_NumBack.j2 (k + 1) y0 y1 y2 y3 y4 y5 y6 y7 y8)) ∧ (∀ y0 y1 y2, LeO (grommetlaw03_NumBack.j3 k y0 y1 y2) (grommetlaw03_NumBack.j3 (k + 1) y0 y1 y2))
  | 0 => ⟨fun _ _ _ _ r h => by simp [grommetlaw03_NumBack.j0] at h, fun _ _ _ _ _ r h => by simp [grommetlaw03_NumBack.l0] at h, fun _ _ _ _ _ _ _ _ _ r h => by simp [grommetlaw03_NumBack.j2] at h, fun _ _ _ r h => by simp [grommetlaw03_NumBack.j3] at h⟩
  | k + 1 => by
    obtain ⟨ih0, ih1, ih2, ih3⟩ := grommetlaw03_NumBack.mono_l k
    refine ⟨?_, ?_, ?_, ?_⟩
    · intro y0 y1 y2 y3
      unfold grommetlaw03_NumBack.j0
      repeat' first
      | (with_reducible exact ih0 _ _ _ _)
      | (with_reducible exact ih1 _ _ _ _ _)
      | (with_reducible exact ih2 _ _ _ _ _ _ _ _ _)
      | (with_reducible exact ih3 _ _ _)
      | (with_reducible exact grommetlaw03_up.mono _)
      | (with_reducible exact num_Eval.mono _ _ _)
      | (with_reducible exact LeO.refl _)
      | (with_reducible exact LeO.none _)
      | (with_reducible refine LeO.ite ?_ ?_)
      | (with_reducible refine LeO.bind ?_ (fun _ => ?_))
      | exact ih0 _ _ _ _
      | exact ih1 _ _ _ _ _
      | exact ih2 _ _ _ _ _ _ _ _ _
      | exact ih3 _ _ _
      | exact grommetlaw03_up.mono _
      | exact num_Eval.mono _ _ _
      | exact LeO.none _
      | refine LeO.ite ?_ ?_
      | refine LeO.bind ?_ (fun _ => ?_)
    · intro y0 y1 y2 y3 y4
      unfold grommetlaw03_NumBack.l0
      repeat' first
      | (with_reducible exact ih0 _ _ _ _)
      | (with_reducible exact ih1 _ _ _ _ _)
      | (with_reducible exact ih2 _ _ _ _ _ _ _ _ _)
      | (with_reducible exact ih3 _ _ _)
      | (with_reducible exact grommetlaw03_up.mono _)
      | (with_reducible exact num_Eval.mono _ _ _)
      | (with_reducible exact LeO.refl _)
      | (with_reducible exact LeO.none _)
      | (with_reducible refine LeO.ite ?_ ?_)
      | (with_reducible refine LeO.bind ?_ (fun _ => ?_))
      | exact ih0 _ _ _ _
      | exact ih1 _ _ _ _ _
      | exact ih2 _ _ _ _ _ _ _ _ _
      | exact ih3 _ _ _
      | exact grommetlaw03_up.mono _
      | exact num_Eval.mono _ _ _
      | exact LeO.none _
      | refine LeO.ite ?_ ?_
      | refine LeO.bind ?_ (fun _ => ?_)
    · intro y0 y1 y2 y3 y4 y5 y6 y7 y8
      unfold grommetlaw03_NumBack.j2
      repeat' first
      | (with_reducible exact ih0 _ _ _ _)
      | (with_reducible exact ih1 _ _ _ _ _)
      | (with_reducible exact ih2 _ _ _ _ _ _ _ _ _)
      | (with_reducible exact ih3 _ _ _)
      | (with_reducible exact grommetlaw03_up.mono _)
      | (with_reducible exact num_Eval.mono _ _ _)
      | (with_reducible exact LeO.refl _)
      | (with_reducible exact LeO.none _)
      | (with_reducible refine LeO.ite ?_ ?_)
      | (with_reducible refine LeO.bind ?_ (fun _ => ?_))
      | exact ih0 _ _ _ _
      | exact ih1 _ _ _ _ _
      | exact ih2 _ _ _ _ _ _ _ _ _
      | exact ih3 _ _ _
      | exact grommetlaw03_up.mono _
      | exact num_Eval.mono _ _ _
      | exact LeO.none _
      | refine LeO.ite ?_ ?_
      | refine LeO.bind ?_ (fun _ => ?_)
    · intro y0 y1 y2
      unfold grommetlaw03_NumBack.j3
      repeat' first
      | (with_reducible exact ih0 _ _ _ _)
      | (with_reducible exact ih1 _ _ _ _ _)
      | (with_reducible exact ih2 _ _ _ _ _ _ _ _ _)
      | (with_reducible exact ih3 _ _ _)
      | (with_reducible exact grommetlaw03_up.mono _)
      | (with_reducible exact num_Eval.mono _ _ _)
      | (with_reducible exact LeO.refl _)
      | (with_reducible exact LeO.none _)
      | (with_reducible refine LeO.ite ?_ ?_)
      | (with_reducible refine LeO.bind ?_ (fun _ => ?_))
      | exact ih0 _ _ _ _
      | exact ih1 _ _ _ _ _
      | exact ih2 _ _ _ _ _ _ _ _ _
      | exact ih3 _ _ _
      | exact grommetlaw03_up.mono _
      | exact num_Eval.mono _ _ _
      | exact LeO.none _
      | refine LeO.ite ?_ ?_
      | refine LeO.bind ?_ (fun _ => ?_)
theorem grommetlaw03_NumBack.mono : ∀ a0 a1 a2 k, LeO (grommetlaw03_NumBack.f k a0 a1 a2) (grommetlaw03_NumBack.f (k + 1) a0 a1 a2) := by
  intro a0 a1 a2 k
  obtain ⟨ih0, ih1, ih2, ih3⟩ := grommetlaw03_NumBack.mono_l k
  unfold grommetlaw03_NumBack.f
  repeat' first
      | (with_reducible exact ih0 _ _ _ _)
      | (with_reducible exact ih1 _ _ _ _ _)
      | (with_reducible exact ih2 _ _ _ _ _ _ _ _ _)
      | (with_reducible exact ih3 _ _ _)
      | (with_reducible exact grommetlaw03_up.mono _)
      | (with_reducible exact num_Eval.mono _ _ _)
      | (with_reducible exact LeO.refl _)
      | (with_reducible exact LeO.none _)
      | (with_reducible refine LeO.ite ?_ ?_)
      | (with_reducible refine LeO.bind ?_ (fun _ => ?_))
      | exact ih0 _ _ _ _
      | exact ih1 _ _ _ _ _
      | exact ih2 _ _ _ _ _ _ _ _ _
      | exact ih3 _ _ _
      | exact grommetlaw03_up.mono _
      | exact num_Eval.mono _ _ _
      | exact LeO.none _
      | refine LeO.ite ?_ ?_
      | refine LeO.bind ?_ (fun _ => ?_)
set_option maxHeartbeats 8000000 in
set_option maxRecDepth 100000 in
theorem grommetlaw03_NumBack.calls (k : Nat) (a0 : Int) (a1 : Int) (a2 : Bool) (r : Bool) (w : World) (hG : GL w) (h : grommetlaw03_NumBack.f k a0 a1 a2 = some r) (hrt : r = true) :
    Calls Tryd.prog 6 #[.int .u64 a0, .int .u64 a1, .bool a2] w fun e w' => e = .returned (.bool r) ∧ Below w.heap.size w w' := by
  have HRT := Aside0.mk hrt
  clear hrt
  have hu30 := Tryd.underlying30
  have hu33 := Tryd.underlying33
  have HGL := Aside0.mk hG
  clear hG
  have HB := Aside0.mk (Below.refl w.heap.size w)
  have H : ((grommetlaw03_up.f k).bind fun t154 => (if a2 = true then (grommetlaw03_NumBack.j0 k a0 a1 t154 124) else (grommetlaw03_NumBack.j0 k (Int.tmod a0 4294967296) (Int.tmod a1 4294967296) t154 106))) = some r := h
  clear h
  replace H := Option.bind_eq_some_iff.mp H
  obtain ⟨t154, A40, H⟩ := H
  replace H : (if a2 = true then (grommetlaw03_NumBack.j0 k a0 a1 t154 124) else (grommetlaw03_NumBack.j0 k (Int.tmod a0 4294967296) (Int.tmod a1 4294967296) t154 106)) = some r := H
  have A4 := Aside0.mk A40
  clear A40
  have HC5 := Aside0.mk H
  clear H
  go_enter Tryd.func6, Tryd.ntmps6
  go_upto_if 39 with (first | ((with_reducible refine gate_callee (f := 10) rfl ?_); refine goesL_ (some 38) rfl rfl Tryd.func10 (by kernel_rfl) rfl #[] rfl (by (try simp only [List.map_toArray, List.map_cons, List.map_nil]); first | done | rfl | (simp only [List.length_drop, List.length_take]; rfl)) ?_; (with_reducible refine (grommetlaw03_up.calls k  t154 _ (GL_at HGL.out (by repeat (first | (with_reducible first | exact HB.out | apply below_alloc | apply pw_below_drewN | apply below_drew1) | exact HB.out))) A4.out).mono ?_); rintro e w6 ⟨rfl, hb⟩; refine ⟨_, rfl, ?_⟩; have n0_ := Aside0.mk (below_step (by repeat (first | (with_reducible first | exact HB.out | apply below_alloc | apply pw_below_drewN | apply below_drew1) | exact HB.out)) hb); clear HB; have HB := n0_; clear n0_; (try clear hb); (try clear hb2); (try clear hk); (try clear hi)))
  (try simp only [Act.put, List.setIfInBounds_toArray, List.set_cons_zero, List.set_cons_succ])
  go_cut [0, 1, 8] (fun v0 v1 v8 wc => ∃ (kq : Nat) (x0_4 : Int) (x1_4 : Int) (x8_4 : Int), v0 = .int .u64 x0_4 ∧ v1 = .int .u64 x1_4 ∧ v8 = .int .i64 x8_4 ∧ Aside0 (grommetlaw03_NumBack.j0 kq x0_4 x1_4 t154 x8_4 = some r) ∧ Aside0 (kq ≤ k) ∧ Aside0 (Below w.heap.size w wc))
  case first =>
    have H := HC5.out
    clear HC5
    by_cases c7 : a2 = true
    · subst c7
      have H1 : (grommetlaw03_NumBack.j0 k a0 a1 t154 124) = some r := by rw [if_pos rfl] at H; exact H
      clear H
      have H := H1
      clear H1
      have H' := Aside0.mk H
      clear H
      go_wp2
      go_meet
      case rel => exact ⟨_, (a0), (a1), (124), (by first | rfl | (simp; done) | (simp [*]; done)), (by first | rfl | (simp; done) | (simp [*]; done)), (by first | rfl | (simp; done) | (simp [*]; done)), H', ⟨by first | omega | exact Nat.le_refl _⟩, ⟨by repeat (first | (with_reducible first | exact HB.out | apply below_alloc | apply pw_below_drewN | apply below_drew1) | exact HB.out)⟩⟩
    · replace c7 := Bool.eq_false_iff.mpr c7
      subst c7
      have H1 : (grommetlaw03_NumBack.j0 k (Int.tmod a0 4294967296) (Int.tmod a1 4294967296) t154 106) = some r := by rw [if_neg (show ¬ (false = true) by decide)] at H; exact H
      clear H
      have H := H1
      clear H1
      have H' := Aside0.mk H
      clear H
      go_wp2
      go_meet
      case rel => exact ⟨_, (Int.tmod a0 4294967296), (Int.tmod a1 4294967296), (106), (by first | rfl | (simp; done) | (simp [*]; done)), (by first | rfl | (simp; done) | (simp [*]; done)), (by first | rfl | (simp; done) | (simp [*]; done)), H', ⟨by first | omega | exact Nat.le_refl _⟩, ⟨by repeat (first | (with_reducible first | exact HB.out | apply below_alloc | apply pw_below_drewN | apply below_drew1) | exact HB.out)⟩⟩
  case rest =>
    clear HC5
    try clear c1
    try clear p2
    try clear c6
    try clear c7
    obtain ⟨kq, x0_4, x1_4, x8_4, rfl, rfl, rfl, HA, HJ4, HB⟩ := hcut
    cases kq with
    | zero => exact absurd HA.out (by simp [grommetlaw03_NumBack.j0])
    | succ kj4 =>
      have H := HA.out
      clear HA
      simp only [grommetlaw03_NumBack.j0] at H
      have H' := Aside0.mk H
      clear H
      go_wp2
      go_loopg [9] kj4 (fun kq v9 w' => ∃ (x9_2 : Int), v9 = .int .i64 x9_2 ∧ Aside0 (grommetlaw03_NumBack.l0 kq x0_4 x1_4 t154 x8_4 x9_2 = some r) ∧ Aside0 (kq ≤ kj4) ∧ Aside0 (Below w.heap.size w w'))
      case atStart => exact ⟨(0), (by first | rfl | (simp; done) | (simp [*]; done)), H', ⟨Nat.le_refl _⟩, ⟨by repeat (first | (with_reducible first | exact HB.out | apply below_alloc | apply pw_below_drewN | apply below_drew1) | exact HB.out)⟩⟩
      case round =>
        clear H'
        try clear c1
        try clear p2
        try clear c6
        try clear c7
        try clear p2
        obtain ⟨x9_2, rfl, HA, HK2, HB⟩ := hrel
        cases gk with
        | zero => exact absurd HA.out (by simp [grommetlaw03_NumBack.l0])
        | succ k2 =>
          have H := HA.out
          clear HA
          simp only [grommetlaw03_NumBack.l0] at H
          by_cases c8 : x9_2 < 2
          · rw [if_pos c8] at H
            have c8b0 : decide (x9_2 < 2) = true := decide_eq_true c8
            clear c8
            obtain ⟨y155, hy155⟩ : ∃ y_ : List Int, y_ = (([x0_4, x1_4] : List Int)) := ⟨_, rfl⟩
            replace H : ((num_Eval.f k2 (wrap64 ((wrap64 (x8_4 + 3)) + x9_2)) y155).bind fun bt158 => ((num_Eval.f k2 (wrap64 ((wrap64 (x8_4 + 5)) + x9_2)) (([x0_4, x1_4] : List Int))).bind fun bt164 => (if bt158.2.2.isNone = true then (if bt164.2.2.isNone = true then (if bt164.2.1 = 0 then (if x1_4 = 0 then (grommetlaw03_NumBack.j2 k2 x0_4 x1_4 t154 x8_4 x9_2 bt158.1 bt158.2.1 bt164.1 true) else (if bt158.2.1 = 0 then (grommetlaw03_NumBack.j2 k2 x0_4 x1_4 t154 x8_4 x9_2 bt158.1 bt158.2.1 bt164.1 (bt164.2.1 != 0)) else (grommetlaw03_NumBack.j2 k2 x0_4 x1_4 t154 x8_4 x9_2 bt158.1 bt158.2.1 bt164.1 false))) else (if x1_4 = 0 then (if bt158.2.1 = 0 then (grommetlaw03_NumBack.j2 k2 x0_4 x1_4 t154 x8_4 x9_2 bt158.1 bt158.2.1 bt164.1 (bt164.2.1 != 0)) else (grommetlaw03_NumBack.j2 k2 x0_4 x1_4 t154 x8_4 x9_2 bt158.1 bt158.2.1 bt164.1 false)) else (grommetlaw03_NumBack.j2 k2 x0_4 x1_4 t154 x8_4 x9_2 bt158.1 bt158.2.1 bt164.1 true))) else (grommetlaw03_NumBack.j2 k2 x0_4 x1_4 t154 x8_4 x9_2 bt158.1 bt158.2.1 bt164.1 true)) else (grommetlaw03_NumBack.j2 k2 x0_4 x1_4 t154 x8_4 x9_2 bt158.1 bt158.2.1 bt164.1 true)))) = some r := by first | (rw [hy155]; with_reducible exact H) | (have H2_ := (Option.bind_some _ _).symm.trans H; rw [hy155]; with_reducible exact H2_) | (have H2_ := (Option.bind_some _ _).symm.trans H; with_reducible exact H2_) | with_reducible exact H | (rw [hy155]; exact H) | exact H
            have Ny155 := Aside0.mk hy155
            clear hy155
            replace H := Option.bind_eq_some_iff.mp H
            obtain ⟨⟨t158, t159, t160⟩, A90, H⟩ := H
            replace H : ((num_Eval.f k2 (wrap64 ((wrap64 (x8_4 + 5)) + x9_2)) (([x0_4, x1_4] : List Int))).bind fun bt164 => (if t160.isNone = true then (if bt164.2.2.isNone = true then (if bt164.2.1 = 0 then (if x1_4 = 0 then (grommetlaw03_NumBack.j2 k2 x0_4 x1_4 t154 x8_4 x9_2 t158 t159 bt164.1 true) else (if t159 = 0 then (grommetlaw03_NumBack.j2 k2 x0_4 x1_4 t154 x8_4 x9_2 t158 t159 bt164.1 (bt164.2.1 != 0)) else (grommetlaw03_NumBack.j2 k2 x0_4 x1_4 t154 x8_4 x9_2 t158 t159 bt164.1 false))) else (if x1_4 = 0 then (if t159 = 0 then (grommetlaw03_NumBack.j2 k2 x0_4 x1_4 t154 x8_4 x9_2 t158 t159 bt164.1 (bt164.2.1 != 0)) else (grommetlaw03_NumBack.j2 k2 x0_4 x1_4 t154 x8_4 x9_2 t158 t159 bt164.1 false)) else (grommetlaw03_NumBack.j2 k2 x0_4 x1_4 t154 x8_4 x9_2 t158 t159 bt164.1 true))) else (grommetlaw03_NumBack.j2 k2 x0_4 x1_4 t154 x8_4 x9_2 t158 t159 bt164.1 true)) else (grommetlaw03_NumBack.j2 k2 x0_4 x1_4 t154 x8_4 x9_2 t158 t159 bt164.1 true))) = some r := H
            have A9 := Aside0.mk A90
            clear A90
            obtain ⟨y161, hy161⟩ : ∃ y_ : List Int, y_ = (([x0_4, x1_4] : List Int)) := ⟨_, rfl⟩
            replace H : ((num_Eval.f k2 (wrap64 ((wrap64 (x8_4 + 5)) + x9_2)) y161).bind fun bt164 => (if t160.isNone = true then (if bt164.2.2.isNone = true then (if bt164.2.1 = 0 then (if x1_4 = 0 then (grommetlaw03_NumBack.j2 k2 x0_4 x1_4 t154 x8_4 x9_2 t158 t159 bt164.1 true) else (if t159 = 0 then (grommetlaw03_NumBack.j2 k2 x0_4 x1_4 t154 x8_4 x9_2 t158 t159 bt164.1 (bt164.2.1 != 0)) else (grommetlaw03_NumBack.j2 k2 x0_4 x1_4 t154 x8_4 x9_2 t158 t159 bt164.1 false))) else (if x1_4 = 0 then (if t159 = 0 then (grommetlaw03_NumBack.j2 k2 x0_4 x1_4 t154 x8_4 x9_2 t158 t159 bt164.1 (bt164.2.1 != 0)) else (grommetlaw03_NumBack.j2 k2 x0_4 x1_4 t154 x8_4 x9_2 t158 t159 bt164.1 false)) else (grommetlaw03_NumBack.j2 k2 x0_4 x1_4 t154 x8_4 x9_2 t158 t159 bt164.1 true))) else (grommetlaw03_NumBack.j2 k2 x0_4 x1_4 t154 x8_4 x9_2 t158 t159 bt164.1 true)) else (grommetlaw03_NumBack.j2 k2 x0_4 x1_4 t154 x8_4 x9_2 t158 t159 bt164.1 true))) = some r := by first | (rw [hy161]; with_reducible exact H) | (have H2_ := (Option.bind_some _ _).symm.trans H; rw [hy161]; with_reducible exact H2_) | (have H2_ := (Option.bind_some _ _).symm.trans H; with_reducible exact H2_) | with_reducible exact H | (rw [hy161]; exact H) | exact H
            have Ny161 := Aside0.mk hy161
            clear hy161
            replace H := Option.bind_eq_some_iff.mp H
            obtain ⟨⟨t164, t165, t166⟩, A100, H⟩ := H
            replace H : (if t160.isNone = true then (if t166.isNone = true then (if t165 = 0 then (if x1_4 = 0 then (grommetlaw03_NumBack.j2 k2 x0_4 x1_4 t154 x8_4 x9_2 t158 t159 t164 true) else (if t159 = 0 then (grommetlaw03_NumBack.j2 k2 x0_4 x1_4 t154 x8_4 x9_2 t158 t159 t164 (t165 != 0)) else (grommetlaw03_NumBack.j2 k2 x0_4 x1_4 t154 x8_4 x9_2 t158 t159 t164 false))) else (if x1_4 = 0 then (if t159 = 0 then (grommetlaw03_NumBack.j2 k2 x0_4 x1_4 t154 x8_4 x9_2 t158 t159 t164 (t165 != 0)) else (grommetlaw03_NumBack.j2 k2 x0_4 x1_4 t154 x8_4 x9_2 t158 t159 t164 false)) else (grommetlaw03_NumBack.j2 k2 x0_4 x1_4 t154 x8_4 x9_2 t158 t159 t164 true))) else (grommetlaw03_NumBack.j2 k2 x0_4 x1_4 t154 x8_4 x9_2 t158 t159 t164 true)) else (grommetlaw03_NumBack.j2 k2 x0_4 x1_4 t154 x8_4 x9_2 t158 t159 t164 true)) = some r := H
            have A10 := Aside0.mk A100
            clear A100
            have HC11 := Aside0.mk H
            clear H
            go_upto_region 12 with (first | ((with_reducible refine gate_dst (N := 55) rfl ?_); refine Kd.R_lit (Kd.int .u64) _ 28 ?hg (N := 55) ?hd (xs := ([x0_4, x1_4] : List Int)) (inner := [.int .u64 x0_4, .int .u64 x1_4]) (ok := fun _ => True) (okp := fun _ => True) ?hr ?hp (fun _ hk => hk) trivial (Below.refl _ _) (Nat.le_refl _) (by simp) ?_; (case hd => rfl); (case hg => rfl); (case hr => first | (go_simp; done) | (go_simp; rfl)); (case hp => exact (Reps.one (show Kd.M (Kd.int .u64) _ _ _ x0_4 [.int .u64 x0_4] from rfl) (Reps.one (show Kd.M (Kd.int .u64) _ _ _ x1_4 [.int .u64 x1_4] from rfl) (Reps.none _ _)))); intro v156 w12 ho13 hb hg_ hnew_; clear hg_ hnew_; (first | rw [← Ny155.out] at ho13 | (simp only [Int.reduceToNat] at ho13; rw [← Ny155.out] at ho13)); have n0_ := Aside0.mk (Kd.R_lower ho13 (below_size (by repeat (first | (with_reducible first | exact HB.out | apply below_alloc | apply pw_below_drewN | apply below_drew1) | exact HB.out)))); have n1_ := Aside0.mk (below_step (by repeat (first | (with_reducible first | exact HB.out | apply below_alloc | apply pw_below_drewN | apply below_drew1) | exact HB.out)) hb); clear HB; have HO157 := n0_; have HB := n1_; clear n0_ n1_; clear hb ho13; obtain ⟨Ao14, co14, eo14⟩ := Kd.R_slice HO157.out; subst eo14) | ((with_reducible refine gate_callee (f := 13) rfl ?_); refine goesL_ (some 56) rfl rfl Tryd.func13 (by kernel_rfl) rfl #[.int .i64 (wrap64 ((wrap64 (x8_4 + 3)) + x9_2)), .slice Ao14 y155.length co14] rfl (by (try simp only [List.map_toArray, List.map_cons, List.map_nil]); first | done | rfl | (simp only [List.length_drop, List.length_take]; rfl)) ?_; (with_reducible refine (num_Eval.calls k2 (wrap64 ((wrap64 (x8_4 + 3)) + x9_2)) _ _ y155 t158 t159 t160 _ (GL_at HGL.out (by repeat (first | (with_reducible first | exact HB.out | apply below_alloc | apply pw_below_drewN | apply below_drew1) | exact HB.out))) ?side1 ?side2 A9.out).mono ?_); (case side1 => repeat (first | exact (Kd.R_reads' HO157.out).2.2 | (with_reducible refine Kd.C_alloc ?_ _) | (with_reducible refine Kd.C_drewN ?_ _) | (with_reducible refine Kd.C_drew ?_))); (case side2 => exact (Kd.R_reads' HO157.out).2.1); rintro e w15 ⟨rfl, hb⟩; refine ⟨_, rfl, ?_⟩; have n0_ := Aside0.mk (Kd.R_below (by (with_reducible repeat (first | apply Kd.R_alloc | apply Kd.R_drewN | apply Kd.R_drew)); exact HO157.out) hb); have n1_ := Aside0.mk (below_step (by repeat (first | (with_reducible first | exact HB.out | apply below_alloc | apply pw_below_drewN | apply below_drew1) | exact HB.out)) hb); clear HO157; clear HB; have HO157 := n0_; have HB := n1_; clear n0_ n1_; (try clear hb); (try clear hb2); (try clear hk); (try clear hi); (try simp only [errW_none, errW_some])) | ((with_reducible refine gate_dst (N := 67) rfl ?_); refine Kd.R_lit (Kd.int .u64) _ 28 ?hg (N := 67) ?hd (xs := ([x0_4, x1_4] : List Int)) (inner := [.int .u64 x0_4, .int .u64 x1_4]) (ok := fun _ => True) (okp := fun _ => True) ?hr ?hp (fun _ hk => hk) trivial (Below.refl _ _) (Nat.le_refl _) (by simp) ?_; (case hd => rfl); (case hg => rfl); (case hr => first | (go_simp; done) | (go_simp; rfl)); (case hp => exact (Reps.one (show Kd.M (Kd.int .u64) _ _ _ x0_4 [.int .u64 x0_4] from rfl) (Reps.one (show Kd.M (Kd.int .u64) _ _ _ x1_4 [.int .u64 x1_4] from rfl) (Reps.none _ _)))); intro v162 w16 ho17 hb hg_ hnew_; clear hg_ hnew_; (first | rw [← Ny161.out] at ho17 | (simp only [Int.reduceToNat] at ho17; rw [← Ny161.out] at ho17)); have n0_ := Aside0.mk (Kd.R_elder' (by (with_reducible repeat (first | apply Kd.R_alloc | apply Kd.R_drewN | apply Kd.R_drew)); exact HO157.out) (Kd.R_base ho17) hb); have n1_ := Aside0.mk (Kd.R_lower (Kd.R_new' ho17 (Kd.R_lt (by (with_reducible repeat (first | apply Kd.R_alloc | apply Kd.R_drewN | apply Kd.R_drew)); exact HO157.out))) (below_size (by repeat (first | (with_reducible first | exact HB.out | apply below_alloc | apply pw_below_drewN | apply below_drew1) | exact HB.out)))); have n2_ := Aside0.mk (below_step (by repeat (first | (with_reducible first | exact HB.out | apply below_alloc | apply pw_below_drewN | apply below_drew1) | exact HB.out)) hb); clear HO157; clear HB; have HO157 := n0_; have HO163 := n1_; have HB := n2_; clear n0_ n1_ n2_; clear hb ho17; obtain ⟨Ao18, co18, eo18⟩ := Kd.R_slice HO163.out; subst eo18) | ((with_reducible refine gate_callee (f := 13) rfl ?_); refine goesL_ (some 68) rfl rfl Tryd.func13 (by kernel_rfl) rfl #[.int .i64 (wrap64 ((wrap64 (x8_4 + 5)) + x9_2)), .slice Ao18 y161.length co18] rfl (by (try simp only [List.map_toArray, List.map_cons, List.map_nil]); first | done | rfl | (simp only [List.length_drop, List.length_take]; rfl)) ?_; (with_reducible refine (num_Eval.calls k2 (wrap64 ((wrap64 (x8_4 + 5)) + x9_2)) _ _ y161 t164 t165 t166 _ (GL_at HGL.out (by repeat (first | (with_reducible first | exact HB.out | apply below_alloc | apply pw_below_drewN | apply below_drew1) | exact HB.out))) ?side1 ?side2 A10.out).mono ?_); (case side1 => repeat (first | exact (Kd.R_reads' HO163.out).2.2 | (with_reducible refine Kd.C_alloc ?_ _) | (with_reducible refine Kd.C_drewN ?_ _) | (with_reducible refine Kd.C_drew ?_))); (case side2 => exact (Kd.R_reads' HO163.out).2.1); rintro e w19 ⟨rfl, hb⟩; refine ⟨_, rfl, ?_⟩; have n0_ := Aside0.mk (Kd.R_below (by (with_reducible repeat (first | apply Kd.R_alloc | apply Kd.R_drewN | apply Kd.R_drew)); exact HO157.out) hb); have n1_ := Aside0.mk (Kd.R_below (by (with_reducible repeat (first | apply Kd.R_alloc | apply Kd.R_drewN | apply Kd.R_drew)); exact HO163.out) hb); have n2_ := Aside0.mk (below_step (by repeat (first | (with_reducible first | exact HB.out | apply below_alloc | apply pw_below_drewN | apply below_drew1) | exact HB.out)) hb); clear HO157; clear HO163; clear HB; have HO157 := n0_; have HO163 := n1_; have HB := n2_; clear n0_ n1_ n2_; (try clear hb); (try clear hb2); (try clear hk); (try clear hi); (try simp only [errW_none, errW_some])))
            (try simp only [Act.put, List.setIfInBounds_toArray, List.set_cons_zero, List.set_cons_succ])
            go_cut [92] (fun v92 wc => ∃ (kq : Nat) (x92_10 : Bool), v92 = .bool x92_10 ∧ Aside0 (grommetlaw03_NumBack.j2 kq x0_4 x1_4 t154 x8_4 x9_2 t158 t159 t164 x92_10 = some r) ∧ Aside0 (kq ≤ k2) ∧ Aside0 (Below w.heap.size w wc))
            case first =>
              have H := HC11.out
              clear HC11
              rcases t160 with _ | q167
              · have H1 : (if t166.isNone = true then (if t165 = 0 then (if x1_4 = 0 then (grommetlaw03_NumBack.j2 k2 x0_4 x1_4 t154 x8_4 x9_2 t158 t159 t164 true) else (if t159 = 0 then (grommetlaw03_NumBack.j2 k2 x0_4 x1_4 t154 x8_4 x9_2 t158 t159 t164 (t165 != 0)) else (grommetlaw03_NumBack.j2 k2 x0_4 x1_4 t154 x8_4 x9_2 t158 t159 t164 false))) else (if x1_4 = 0 then (if t159 = 0 then (grommetlaw03_NumBack.j2 k2 x0_4 x1_4 t154 x8_4 x9_2 t158 t159 t164 (t165 != 0)) else (grommetlaw03_NumBack.j2 k2 x0_4 x1_4 t154 x8_4 x9_2 t158 t159 t164 false)) else (grommetlaw03_NumBack.j2 k2 x0_4 x1_4 t154 x8_4 x9_2 t158 t159 t164 true))) else (grommetlaw03_NumBack.j2 k2 x0_4 x1_4 t154 x8_4 x9_2 t158 t159 t164 true)) = some r := by rw [if_pos (show (none : Option Int).isNone = true by rfl)] at H; exact H
                clear H
                have H := H1
                clear H1
                try simp only [errW_none, errW_some]
                rcases t166 with _ | q168
                · have H1 : (if t165 = 0 then (if x1_4 = 0 then (grommetlaw03_NumBack.j2 k2 x0_4 x1_4 t154 x8_4 x9_2 t158 t159 t164 true) else (if t159 = 0 then (grommetlaw03_NumBack.j2 k2 x0_4 x1_4 t154 x8_4 x9_2 t158 t159 t164 (t165 != 0)) else (grommetlaw03_NumBack.j2 k2 x0_4 x1_4 t154 x8_4 x9_2 t158 t159 t164 false))) else (if x1_4 = 0 then (if t159 = 0 then (grommetlaw03_NumBack.j2 k2 x0_4 x1_4 t154 x8_4 x9_2 t158 t159 t164 (t165 != 0)) else (grommetlaw03_NumBack.j2 k2 x0_4 x1_4 t154 x8_4 x9_2 t158 t159 t164 false)) else (grommetlaw03_NumBack.j2 k2 x0_4 x1_4 t154 x8_4 x9_2 t158 t159 t164 true))) = some r := by rw [if_pos (show (none : Option Int).isNone = true by rfl)] at H; exact H
                  clear H
                  have H := H1
                  clear H1
                  try simp only [errW_none, errW_some]
                  by_cases c20 : t165 = 0
                  · rw [if_pos c20] at H
                    have c20b0 : (t165 == 0) = true := beq_iff_eq.mpr c20
                    have c20b1 : (t165 != 0) = false := bne_eq_false_iff_eq.mpr c20
                    clear c20
                    (first | rw [c20b0] | (simp only [i64_w, i32_w]; rw [c20b0]) | skip)
                    by_cases c21 : x1_4 = 0
                    · rw [if_pos c21] at H
                      have c21b0 : (x1_4 == 0) = true := beq_iff_eq.mpr c21
                      have c21b1 : (x1_4 != 0) = false := bne_eq_false_iff_eq.mpr c21
                      clear c21
                      have H' := Aside0.mk H
                      clear H
                      go_wp2
                      go_meet
                      case rel => exact ⟨_, (true), (by first | rfl | (simp; done) | (simp [*]; done)), H', ⟨by have := HJ4.out; have := HK2.out; first | omega | exact Nat.le_refl _⟩, ⟨by repeat (first | (with_reducible first | exact HB.out | apply below_alloc | apply pw_below_drewN | apply below_drew1) | exact HB.out)⟩⟩
                    · rw [if_neg c21] at H
                      have c21b0 : (x1_4 == 0) = false := beq_eq_false_iff_ne.mpr c21
                      have c21b1 : (x1_4 != 0) = true := bne_iff_ne.mpr c21
                      by_cases c22 : t159 = 0
                      · rw [if_pos c22] at H
                        have c22b0 : (t159 == 0) = true := beq_iff_eq.mpr c22
                        have c22b1 : (t159 != 0) = false := bne_eq_false_iff_eq.mpr c22
                        clear c22
                        have H' := Aside0.mk H
                        clear H
                        go_wp2
                        go_meet
                        case rel => exact ⟨_, ((t165 != 0)), (by first | rfl | (simp; done) | (simp [*]; done)), H', ⟨by have := HJ4.out; have := HK2.out; first | omega | exact Nat.le_refl _⟩, ⟨by repeat (first | (with_reducible first | exact HB.out | apply below_alloc | apply pw_below_drewN | apply below_drew1) | exact HB.out)⟩⟩
                      · rw [if_neg c22] at H
                        have c22b0 : (t159 == 0) = false := beq_eq_false_iff_ne.mpr c22
                        have c22b1 : (t159 != 0) = true := bne_iff_ne.mpr c22
                        have H' := Aside0.mk H
                        clear H
                        go_wp2
                        go_meet
                        case rel => exact ⟨_, (false), (by first | rfl | (simp; done) | (simp [*]; done)), H', ⟨by have := HJ4.out; have := HK2.out; first | omega | exact Nat.le_refl _⟩, ⟨by repeat (first | (with_reducible first | exact HB.out | apply below_alloc | apply pw_below_drewN | apply below_drew1) | exact HB.out)⟩⟩
                  · rw [if_neg c20] at H
                    have c20b0 : (t165 == 0) = false := beq_eq_false_iff_ne.mpr c20
                    have c20b1 : (t165 != 0) = true := bne_iff_ne.mpr c20
                    (first | rw [c20b0] | (simp only [i64_w, i32_w]; rw [c20b0]) | skip)
                    by_cases c23 : x1_4 = 0
                    · rw [if_pos c23] at H
                      have c23b0 : (x1_4 == 0) = true := beq_iff_eq.mpr c23
                      have c23b1 : (x1_4 != 0) = false := bne_eq_false_iff_eq.mpr c23
                      clear c23
                      by_cases c24 : t159 = 0
                      · rw [if_pos c24] at H
                        have c24b0 : (t159 == 0) = true := beq_iff_eq.mpr c24
                        have c24b1 : (t159 != 0) = false := bne_eq_false_iff_eq.mpr c24
                        clear c24
                        have H' := Aside0.mk H
                        clear H
                        go_wp2
                        go_meet
                        case rel => exact ⟨_, ((t165 != 0)), (by first | rfl | (simp; done) | (simp [*]; done)), H', ⟨by have := HJ4.out; have := HK2.out; first | omega | exact Nat.le_refl _⟩, ⟨by repeat (first | (with_reducible first | exact HB.out | apply below_alloc | apply pw_below_drewN | apply below_drew1) | exact HB.out)⟩⟩
                      · rw [if_neg c24] at H
                        have c24b0 : (t159 == 0) = false := beq_eq_false_iff_ne.mpr c24
                        have c24b1 : (t159 != 0) = true := bne_iff_ne.mpr c24
                        have H' := Aside0.mk H
                        clear H
                        go_wp2
                        go_meet
                        case rel => exact ⟨_, (false), (by first | rfl | (simp; done) | (simp [*]; done)), H', ⟨by have := HJ4.out; have := HK2.out; first | omega | exact Nat.le_refl _⟩, ⟨by repeat (first | (with_reducible first | exact HB.out | apply below_alloc | apply pw_below_drewN | apply below_drew1) | exact HB.out)⟩⟩
                    · rw [if_neg c23] at H
                      have c23b0 : (x1_4 == 0) = false := beq_eq_false_iff_ne.mpr c23
                      have c23b1 : (x1_4 != 0) = true := bne_iff_ne.mpr c23
                      have H' := Aside0.mk H
                      clear H
                      go_wp2
                      go_meet
                      case rel => exact ⟨_, (true), (by first | rfl | (simp; done) | (simp [*]; done)), H', ⟨by have := HJ4.out; have := HK2.out; first | omega | exact Nat.le_refl _⟩, ⟨by repeat (first | (with_reducible first | exact HB.out | apply below_alloc | apply pw_below_drewN | apply below_drew1) | exact HB.out)⟩⟩
                · have H1 : (grommetlaw03_NumBack.j2 k2 x0_4 x1_4 t154 x8_4 x9_2 t158 t159 t164 true) = some r := by rw [if_neg (show ¬ (some q168).isNone = true by simp)] at H; exact H
                  clear H
                  have H := H1
                  clear H1
                  try simp only [errW_none, errW_some]
                  have H' := Aside0.mk H
                  clear H
                  go_wp2
                  go_meet
                  case rel => exact ⟨_, (true), (by first | rfl | (simp; done) | (simp [*]; done)), H', ⟨by have := HJ4.out; have := HK2.out; first | omega | exact Nat.le_refl _⟩, ⟨by repeat (first | (with_reducible first | exact HB.out | apply below_alloc | apply pw_below_drewN | apply below_drew1) | exact HB.out)⟩⟩
              · have H1 : (grommetlaw03_NumBack.j2 k2 x0_4 x1_4 t154 x8_4 x9_2 t158 t159 t164 true) = some r := by rw [if_neg (show ¬ (some q167).isNone = true by simp)] at H; exact H
                clear H
                have H := H1
                clear H1
                try simp only [errW_none, errW_some]
                have H' := Aside0.mk H
                clear H
                go_wp2
                go_meet
                case rel => exact ⟨_, (true), (by first | rfl | (simp; done) | (simp [*]; done)), H', ⟨by have := HJ4.out; have := HK2.out; first | omega | exact Nat.le_refl _⟩, ⟨by repeat (first | (with_reducible first | exact HB.out | apply below_alloc | apply pw_below_drewN | apply below_drew1) | exact HB.out)⟩⟩
            case rest =>
              clear HC11
              try clear c1
              try clear q1
              try clear c2
              try clear p2
              try clear c6
              try clear p6
              try clear c7
              try clear c8
              try clear c8b0
              try clear c10
              try clear c13
              try clear q16
              try clear c20
              try clear c20b0
              try clear c20b1
              try clear c21
              try clear c21b0
              try clear c21b1
              try clear c22
              try clear c22b0
              try clear c22b1
              try clear c23
              try clear c23b0
              try clear c23b1
              try clear c24
              try clear c24b0
              try clear c24b1
              try clear p2
              try clear q167
              try clear q168
              obtain ⟨kq, x92_10, rfl, HA, HJ10, HB⟩ := hcut
              cases kq with
              | zero => exact absurd HA.out (by simp [grommetlaw03_NumBack.j2])
              | succ kj10 =>
                have H := HA.out
                clear HA
                simp only [grommetlaw03_NumBack.j2] at H
                by_cases c25 : x92_10 = true
                · subst c25
                  have H1 : (some false) = some r := by rw [if_pos rfl] at H; exact H
                  clear H
                  have H := H1
                  clear H1
                  exact absurd ((Option.some.inj H).trans HRT.out) (by decide)
                · replace c25 := Bool.eq_false_iff.mpr c25
                  subst c25
                  have H1 : (if t159 = 0 then ((num_Eval.f kj10 (wrap64 (x8_4 + 2)) (([t158, x1_4] : List Int))).bind fun bt172 => ((num_Eval.f kj10 x8_4 (([bt172.1, t164] : List Int))).bind fun bt178 => (if bt172.2.2.isNone = true then (if bt178.2.2.isNone = true then (if bt178.1 = x0_4 then (grommetlaw03_NumBack.l0 kj10 x0_4 x1_4 t154 x8_4 (wrap64 (x9_2 + 1))) else (some false)) else (some false)) else (some false)))) else (grommetlaw03_NumBack.l0 kj10 x0_4 x1_4 t154 x8_4 (wrap64 (x9_2 + 1)))) = some r := by rw [if_neg (show ¬ (false = true) by decide)] at H; exact H
                  clear H
                  have H := H1
                  clear H1
                  by_cases c26 : t159 = 0
                  · rw [if_pos c26] at H
                    have c26b0 : (t159 == 0) = true := beq_iff_eq.mpr c26
                    have c26b1 : (t159 != 0) = false := bne_eq_false_iff_eq.mpr c26
                    clear c26
                    obtain ⟨y169, hy169⟩ : ∃ y_ : List Int, y_ = (([t158, x1_4] : List Int)) := ⟨_, rfl⟩
                    replace H : ((num_Eval.f kj10 (wrap64 (x8_4 + 2)) y169).bind fun bt172 => ((num_Eval.f kj10 x8_4 (([bt172.1, t164] : List Int))).bind fun bt178 => (if bt172.2.2.isNone = true then (if bt178.2.2.isNone = true then (if bt178.1 = x0_4 then (grommetlaw03_NumBack.l0 kj10 x0_4 x1_4 t154 x8_4 (wrap64 (x9_2 + 1))) else (some false)) else (some false)) else (some false)))) = some r := by first | (rw [hy169]; with_reducible exact H) | (have H2_ := (Option.bind_some _ _).symm.trans H; rw [hy169]; with_reducible exact H2_) | (have H2_ := (Option.bind_some _ _).symm.trans H; with_reducible exact H2_) | with_reducible exact H | (rw [hy169]; exact H) | exact H
                    have Ny169 := Aside0.mk hy169
                    clear hy169
                    replace H := Option.bind_eq_some_iff.mp H
                    obtain ⟨⟨t172, t173, t174⟩, A270, H⟩ := H
                    replace H : ((num_Eval.f kj10 x8_4 (([t172, t164] : List Int))).bind fun bt178 => (if t174.isNone = true then (if bt178.2.2.isNone = true then (if bt178.1 = x0_4 then (grommetlaw03_NumBack.l0 kj10 x0_4 x1_4 t154 x8_4 (wrap64 (x9_2 + 1))) else (some false)) else (some false)) else (some false))) = some r := H
                    have A27 := Aside0.mk A270
                    clear A270
                    obtain ⟨y175, hy175⟩ : ∃ y_ : List Int, y_ = (([t172, t164] : List Int)) := ⟨_, rfl⟩
                    replace H : ((num_Eval.f kj10 x8_4 y175).bind fun bt178 => (if t174.isNone = true then (if bt178.2.2.isNone = true then (if bt178.1 = x0_4 then (grommetlaw03_NumBack.l0 kj10 x0_4 x1_4 t154 x8_4 (wrap64 (x9_2 + 1))) else (some false)) else (some false)) else (some false))) = some r := by first | (rw [hy175]; with_reducible exact H) | (have H2_ := (Option.bind_some _ _).symm.trans H; rw [hy175]; with_reducible exact H2_) | (have H2_ := (Option.bind_some _ _).symm.trans H; with_reducible exact H2_) | with_reducible exact H | (rw [hy175]; exact H) | exact H
                    have Ny175 := Aside0.mk hy175
                    clear hy175
                    replace H := Option.bind_eq_some_iff.mp H
                    obtain ⟨⟨t178, t179, t180⟩, A280, H⟩ := H
                    replace H : (if t174.isNone = true then (if t180.isNone = true then (if t178 = x0_4 then (grommetlaw03_NumBack.l0 kj10 x0_4 x1_4 t154 x8_4 (wrap64 (x9_2 + 1))) else (some false)) else (some false)) else (some false)) = some r := H
                    have A28 := Aside0.mk A280
                    clear A280
                    rcases t174 with _ | q181
                    · have H1 : (if t180.isNone = true then (if t178 = x0_4 then (grommetlaw03_NumBack.l0 kj10 x0_4 x1_4 t154 x8_4 (wrap64 (x9_2 + 1))) else (some false)) else (some false)) = some r := by rw [if_pos (show (none : Option Int).isNone = true by rfl)] at H; exact H
                      clear H
                      have H := H1
                      clear H1
                      try simp only [errW_none, errW_some]
                      rcases t180 with _ | q182
                      · have H1 : (if t178 = x0_4 then (grommetlaw03_NumBack.l0 kj10 x0_4 x1_4 t154 x8_4 (wrap64 (x9_2 + 1))) else (some false)) = some r := by rw [if_pos (show (none : Option Int).isNone = true by rfl)] at H; exact H
                        clear H
                        have H := H1
                        clear H1
                        try simp only [errW_none, errW_some]
                        by_cases c29 : t178 = x0_4
                        · rw [if_pos c29] at H
                          have c29b0 : (t178 == x0_4) = true := beq_iff_eq.mpr c29
                          have c29b1 : (t178 != x0_4) = false := bne_eq_false_iff_eq.mpr c29
                          clear c29
                          have H' := Aside0.mk H
                          clear H
                          go_wp2_with (first | ((with_reducible refine gate_dst (N := 100) rfl ?_); refine Kd.R_lit (Kd.int .u64) _ 28 ?hg (N := 100) ?hd (xs := ([t158, x1_4] : List Int)) (inner := [.int .u64 t158, .int .u64 x1_4]) (ok := fun _ => True) (okp := fun _ => True) ?hr ?hp (fun _ hk => hk) trivial (Below.refl _ _) (Nat.le_refl _) (by simp) ?_; (case hd => rfl); (case hg => rfl); (case hr => first | (go_simp; done) | (go_simp; rfl)); (case hp => exact (Reps.one (show Kd.M (Kd.int .u64) _ _ _ t158 [.int .u64 t158] from rfl) (Reps.one (show Kd.M (Kd.int .u64) _ _ _ x1_4 [.int .u64 x1_4] from rfl) (Reps.none _ _)))); intro v170 w30 ho31 hb hg_ hnew_; clear hg_ hnew_; (first | rw [← Ny169.out] at ho31 | (simp only [Int.reduceToNat] at ho31; rw [← Ny169.out] at ho31)); have n0_ := Aside0.mk (Kd.R_lower ho31 (below_size (by repeat (first | (with_reducible first | exact HB.out | apply below_alloc | apply pw_below_drewN | apply below_drew1) | exact HB.out)))); have n1_ := Aside0.mk (below_step (by repeat (first | (with_reducible first | exact HB.out | apply below_alloc | apply pw_below_drewN | apply below_drew1) | exact HB.out)) hb); clear HB; have HO171 := n0_; have HB := n1_; clear n0_ n1_; clear hb ho31; obtain ⟨Ao32, co32, eo32⟩ := Kd.R_slice HO171.out; subst eo32) | ((with_reducible refine gate_callee (f := 13) rfl ?_); refine goesL_ (some 101) rfl rfl Tryd.func13 (by kernel_rfl) rfl #[.int .i64 (wrap64 (x8_4 + 2)), .slice Ao32 y169.length co32] rfl (by (try simp only [List.map_toArray, List.map_cons, List.map_nil]); first | done | rfl | (simp only [List.length_drop, List.length_take]; rfl)) ?_; (with_reducible refine (num_Eval.calls kj10 (wrap64 (x8_4 + 2)) _ _ y169 t172 t173 none _ (GL_at HGL.out (by repeat (first | (with_reducible first | exact HB.out | apply below_alloc | apply pw_below_drewN | apply below_drew1) | exact HB.out))) ?side1 ?side2 A27.out).mono ?_); (case side1 => repeat (first | exact (Kd.R_reads' HO171.out).2.2 | (with_reducible refine Kd.C_alloc ?_ _) | (with_reducible refine Kd.C_drewN ?_ _) | (with_reducible refine Kd.C_drew ?_))); (case side2 => exact (Kd.R_reads' HO171.out).2.1); rintro e w33 ⟨rfl, hb⟩; refine ⟨_, rfl, ?_⟩; have n0_ := Aside0.mk (Kd.R_below (by (with_reducible repeat (first | apply Kd.R_alloc | apply Kd.R_drewN | apply Kd.R_drew)); exact HO171.out) hb); have n1_ := Aside0.mk (below_step (by repeat (first | (with_reducible first | exact HB.out | apply below_alloc | apply pw_below_drewN | apply below_drew1) | exact HB.out)) hb); clear HO171; clear HB; have HO171 := n0_; have HB := n1_; clear n0_ n1_; (try clear hb); (try clear hb2); (try clear hk); (try clear hi); (try simp only [errW_none, errW_some])) | ((with_reducible refine gate_dst (N := 109) rfl ?_); refine Kd.R_lit (Kd.int .u64) _ 28 ?hg (N := 109) ?hd (xs := ([t172, t164] : List Int)) (inner := [.int .u64 t172, .int .u64 t164]) (ok := fun _ => True) (okp := fun _ => True) ?hr ?hp (fun _ hk => hk) trivial (Below.refl _ _) (Nat.le_refl _) (by simp) ?_; (case hd => rfl); (case hg => rfl); (case hr => first | (go_simp; done) | (go_simp; rfl)); (case hp => exact (Reps.one (show Kd.M (Kd.int .u64) _ _ _ t172 [.int .u64 t172] from rfl) (Reps.one (show Kd.M (Kd.int .u64) _ _ _ t164 [.int .u64 t164] from rfl) (Reps.none _ _)))); intro v176 w34 ho35 hb hg_ hnew_; clear hg_ hnew_; (first | rw [← Ny175.out] at ho35 | (simp only [Int.reduceToNat] at ho35; rw [← Ny175.out] at ho35)); have n0_ := Aside0.mk (Kd.R_elder' (by (with_reducible repeat (first | apply Kd.R_alloc | apply Kd.R_drewN | apply Kd.R_drew)); exact HO171.out) (Kd.R_base ho35) hb); have n1_ := Aside0.mk (Kd.R_lower (Kd.R_new' ho35 (Kd.R_lt (by (with_reducible repeat (first | apply Kd.R_alloc | apply Kd.R_drewN | apply Kd.R_drew)); exact HO171.out))) (below_size (by repeat (first | (with_reducible first | exact HB.out | apply below_alloc | apply pw_below_drewN | apply below_drew1) | exact HB.out)))); have n2_ := Aside0.mk (below_step (by repeat (first | (with_reducible first | exact HB.out | apply below_alloc | apply pw_below_drewN | apply below_drew1) | exact HB.out)) hb); clear HO171; clear HB; have HO171 := n0_; have HO177 := n1_; have HB := n2_; clear n0_ n1_ n2_; clear hb ho35; obtain ⟨Ao36, co36, eo36⟩ := Kd.R_slice HO177.out; subst eo36) | ((with_reducible refine gate_callee (f := 13) rfl ?_); refine goesL_ (some 110) rfl rfl Tryd.func13 (by kernel_rfl) rfl #[.int .i64 x8_4, .slice Ao36 y175.length co36] rfl (by (try simp only [List.map_toArray, List.map_cons, List.map_nil]); first | done | rfl | (simp only [List.length_drop, List.length_take]; rfl)) ?_; (with_reducible refine (num_Eval.calls kj10 x8_4 _ _ y175 t178 t179 none _ (GL_at HGL.out (by repeat (first | (with_reducible first | exact HB.out | apply below_alloc | apply pw_below_drewN | apply below_drew1) | exact HB.out))) ?side1 ?side2 A28.out).mono ?_); (case side1 => repeat (first | exact (Kd.R_reads' HO177.out).2.2 | (with_reducible refine Kd.C_alloc ?_ _) | (with_reducible refine Kd.C_drewN ?_ _) | (with_reducible refine Kd.C_drew ?_))); (case side2 => exact (Kd.R_reads' HO177.out).2.1); rintro e w37 ⟨rfl, hb⟩; refine ⟨_, rfl, ?_⟩; have n0_ := Aside0.mk (Kd.R_below (by (with_reducible repeat (first | apply Kd.R_alloc | apply Kd.R_drewN | apply Kd.R_drew)); exact HO171.out) hb); have n1_ := Aside0.mk (Kd.R_below (by (with_reducible repeat (first | apply Kd.R_alloc | apply Kd.R_drewN | apply Kd.R_drew)); exact HO177.out) hb); have n2_ := Aside0.mk (below_step (by repeat (first | (with_reducible first | exact HB.out | apply below_alloc | apply pw_below_drewN | apply below_drew1) | exact HB.out)) hb); clear HO171; clear HO177; clear HB; have HO171 := n0_; have HO177 := n1_; have HB := n2_; clear n0_ n1_ n2_; (try clear hb); (try clear hb2); (try clear hk); (try clear hi); (try simp only [errW_none, errW_some])))
                          go_roundg kj10
                          case measure => have := HJ4.out; have := HK2.out; have := HJ10.out; omega
                          case rel => exact ⟨(wrap64 (x9_2 + 1)), (by first | rfl | (simp; done) | (simp [*]; done)), H', ⟨by have := HJ4.out; have := HK2.out; have := HJ10.out; omega⟩, ⟨by repeat (first | (with_reducible first | exact HB.out | apply below_alloc | apply pw_below_drewN | apply below_drew1) | exact HB.out)⟩⟩
                        · rw [if_neg c29] at H
                          have c29b0 : (t178 == x0_4) = false := beq_eq_false_iff_ne.mpr c29
                          have c29b1 : (t178 != x0_4) = true := bne_iff_ne.mpr c29
                          exact absurd ((Option.some.inj H).trans HRT.out) (by decide)
                      · have H1 : (some false) = some r := by rw [if_neg (show ¬ (some q182).isNone = true by simp)] at H; exact H
                        clear H
                        have H := H1
                        clear H1
                        try simp only [errW_none, errW_some]
                        exact absurd ((Option.some.inj H).trans HRT.out) (by decide)
                    · have H1 : (some false) = some r := by rw [if_neg (show ¬ (some q181).isNone = true by simp)] at H; exact H
                      clear H
                      have H := H1
                      clear H1
                      try simp only [errW_none, errW_some]
                      exact absurd ((Option.some.inj H).trans HRT.out) (by decide)
                  · rw [if_neg c26] at H
                    have c26b0 : (t159 == 0) = false := beq_eq_false_iff_ne.mpr c26
                    have c26b1 : (t159 != 0) = true := bne_iff_ne.mpr c26
                    have H' := Aside0.mk H
                    clear H
                    go_wp2
                    go_roundg kj10
                    case measure => have := HJ4.out; have := HK2.out; have := HJ10.out; omega
                    case rel => exact ⟨(wrap64 (x9_2 + 1)), (by first | rfl | (simp; done) | (simp [*]; done)), H', ⟨by have := HJ4.out; have := HK2.out; have := HJ10.out; omega⟩, ⟨by repeat (first | (with_reducible first | exact HB.out | apply below_alloc | apply pw_below_drewN | apply below_drew1) | exact HB.out)⟩⟩
          · rw [if_neg c8] at H
            have c8b0 : decide (x9_2 < 2) = false := decide_eq_false c8
            clear c8
            obtain ⟨y183, hy183⟩ : ∃ y_ : List Int, y_ = (([x0_4, x1_4] : List Int)) := ⟨_, rfl⟩
            replace H : ((num_Eval.f k2 (wrap64 (x8_4 + 13)) y183).bind fun bt186 => ((num_Eval.f k2 (wrap64 (x8_4 + 14)) (([bt186.1, x1_4] : List Int))).bind fun bt192 => (if bt186.2.2.isNone = true then (if bt192.2.2.isNone = true then (grommetlaw03_NumBack.j3 k2 x0_4 t154 (bt192.1 != x0_4)) else (grommetlaw03_NumBack.j3 k2 x0_4 t154 true)) else (grommetlaw03_NumBack.j3 k2 x0_4 t154 true)))) = some r := by first | (rw [hy183]; with_reducible exact H) | (have H2_ := (Option.bind_some _ _).symm.trans H; rw [hy183]; with_reducible exact H2_) | (have H2_ := (Option.bind_some _ _).symm.trans H; with_reducible exact H2_) | with_reducible exact H | (rw [hy183]; exact H) | exact H
            have Ny183 := Aside0.mk hy183
            clear hy183
            replace H := Option.bind_eq_some_iff.mp H
            obtain ⟨⟨t186, t187, t188⟩, A380, H⟩ := H
            replace H : ((num_Eval.f k2 (wrap64 (x8_4 + 14)) (([t186, x1_4] : List Int))).bind fun bt192 => (if t188.isNone = true then (if bt192.2.2.isNone = true then (grommetlaw03_NumBack.j3 k2 x0_4 t154 (bt192.1 != x0_4)) else (grommetlaw03_NumBack.j3 k2 x0_4 t154 true)) else (grommetlaw03_NumBack.j3 k2 x0_4 t154 true))) = some r := H
            have A38 := Aside0.mk A380
            clear A380
            obtain ⟨y189, hy189⟩ : ∃ y_ : List Int, y_ = (([t186, x1_4] : List Int)) := ⟨_, rfl⟩
            replace H : ((num_Eval.f k2 (wrap64 (x8_4 + 14)) y189).bind fun bt192 => (if t188.isNone = true then (if bt192.2.2.isNone = true then (grommetlaw03_NumBack.j3 k2 x0_4 t154 (bt192.1 != x0_4)) else (grommetlaw03_NumBack.j3 k2 x0_4 t154 true)) else (grommetlaw03_NumBack.j3 k2 x0_4 t154 true))) = some r := by first | (rw [hy189]; with_reducible exact H) | (have H2_ := (Option.bind_some _ _).symm.trans H; rw [hy189]; with_reducible exact H2_) | (have H2_ := (Option.bind_some _ _).symm.trans H; with_reducible exact H2_) | with_reducible exact H | (rw [hy189]; exact H) | exact H
            have Ny189 := Aside0.mk hy189
            clear hy189
            replace H := Option.bind_eq_some_iff.mp H
            obtain ⟨⟨t192, t193, t194⟩, A390, H⟩ := H
            replace H : (if t188.isNone = true then (if t194.isNone = true then (grommetlaw03_NumBack.j3 k2 x0_4 t154 (t192 != x0_4)) else (grommetlaw03_NumBack.j3 k2 x0_4 t154 true)) else (grommetlaw03_NumBack.j3 k2 x0_4 t154 true)) = some r := H
            have A39 := Aside0.mk A390
            clear A390
            have HC40 := Aside0.mk H
            clear H
            go_upto_region 21 with (first | ((with_reducible refine gate_dst (N := 130) rfl ?_); refine Kd.R_lit (Kd.int .u64) _ 28 ?hg (N := 130) ?hd (xs := ([x0_4, x1_4] : List Int)) (inner := [.int .u64 x0_4, .int .u64 x1_4]) (ok := fun _ => True) (okp := fun _ => True) ?hr ?hp (fun _ hk => hk) trivial (Below.refl _ _) (Nat.le_refl _) (by simp) ?_; (case hd => rfl); (case hg => rfl); (case hr => first | (go_simp; done) | (go_simp; rfl)); (case hp => exact (Reps.one (show Kd.M (Kd.int .u64) _ _ _ x0_4 [.int .u64 x0_4] from rfl) (Reps.one (show Kd.M (Kd.int .u64) _ _ _ x1_4 [.int .u64 x1_4] from rfl) (Reps.none _ _)))); intro v184 w41 ho42 hb hg_ hnew_; clear hg_ hnew_; (first | rw [← Ny183.out] at ho42 | (simp only [Int.reduceToNat] at ho42; rw [← Ny183.out] at ho42)); have n0_ := Aside0.mk (Kd.R_lower ho42 (below_size (by repeat (first | (with_reducible first | exact HB.out | apply below_alloc | apply pw_below_drewN | apply below_drew1) | exact HB.out)))); have n1_ := Aside0.mk (below_step (by repeat (first | (with_reducible first | exact HB.out | apply below_alloc | apply pw_below_drewN | apply below_drew1) | exact HB.out)) hb); clear HB; have HO185 := n0_; have HB := n1_; clear n0_ n1_; clear hb ho42; obtain ⟨Ao43, co43, eo43⟩ := Kd.R_slice HO185.out; subst eo43) | ((with_reducible refine gate_callee (f := 13) rfl ?_); refine goesL_ (some 131) rfl rfl Tryd.func13 (by kernel_rfl) rfl #[.int .i64 (wrap64 (x8_4 + 13)), .slice Ao43 y183.length co43] rfl (by (try simp only [List.map_toArray, List.map_cons, List.map_nil]); first | done | rfl | (simp only [List.length_drop, List.length_take]; rfl)) ?_; (with_reducible refine (num_Eval.calls k2 (wrap64 (x8_4 + 13)) _ _ y183 t186 t187 t188 _ (GL_at HGL.out (by repeat (first | (with_reducible first | exact HB.out | apply below_alloc | apply pw_below_drewN | apply below_drew1) | exact HB.out))) ?side1 ?side2 A38.out).mono ?_); (case side1 => repeat (first | exact (Kd.R_reads' HO185.out).2.2 | (with_reducible refine Kd.C_alloc ?_ _) | (with_reducible refine Kd.C_drewN ?_ _) | (with_reducible refine Kd.C_drew ?_))); (case side2 => exact (Kd.R_reads' HO185.out).2.1); rintro e w44 ⟨rfl, hb⟩; refine ⟨_, rfl, ?_⟩; have n0_ := Aside0.mk (Kd.R_below (by (with_reducible repeat (first | apply Kd.R_alloc | apply Kd.R_drewN | apply Kd.R_drew)); exact HO185.out) hb); have n1_ := Aside0.mk (below_step (by repeat (first | (with_reducible first | exact HB.out | apply below_alloc | apply pw_below_drewN | apply below_drew1) | exact HB.out)) hb); clear HO185; clear HB; have HO185 := n0_; have HB := n1_; clear n0_ n1_; (try clear hb); (try clear hb2); (try clear hk); (try clear hi); (try simp only [errW_none, errW_some])) | ((with_reducible refine gate_dst (N := 140) rfl ?_); refine Kd.R_lit (Kd.int .u64) _ 28 ?hg (N := 140) ?hd (xs := ([t186, x1_4] : List Int)) (inner := [.int .u64 t186, .int .u64 x1_4]) (ok := fun _ => True) (okp := fun _ => True) ?hr ?hp (fun _ hk => hk) trivial (Below.refl _ _) (Nat.le_refl _) (by simp) ?_; (case hd => rfl); (case hg => rfl); (case hr => first | (go_simp; done) | (go_simp; rfl)); (case hp => exact (Reps.one (show Kd.M (Kd.int .u64) _ _ _ t186 [.int .u64 t186] from rfl) (Reps.one (show Kd.M (Kd.int .u64) _ _ _ x1_4 [.int .u64 x1_4] from rfl) (Reps.none _ _)))); intro v190 w45 ho46 hb hg_ hnew_; clear hg_ hnew_; (first | rw [← Ny189.out] at ho46 | (simp only [Int.reduceToNat] at ho46; rw [← Ny189.out] at ho46)); have n0_ := Aside0.mk (Kd.R_elder' (by (with_reducible repeat (first | apply Kd.R_alloc | apply Kd.R_drewN | apply Kd.R_drew)); exact HO185.out) (Kd.R_base ho46) hb); have n1_ := Aside0.mk (Kd.R_lower (Kd.R_new' ho46 (Kd.R_lt (by (with_reducible repeat (first | apply Kd.R_alloc | apply Kd.R_drewN | apply Kd.R_drew)); exact HO185.out))) (below_size (by repeat (first | (with_reducible first | exact HB.out | apply below_alloc | apply pw_below_drewN | apply below_drew1) | exact HB.out)))); have n2_ := Aside0.mk (below_step (by repeat (first | (with_reducible first | exact HB.out | apply below_alloc | apply pw_below_drewN | apply below_drew1) | exact HB.out)) hb); clear HO185; clear HB; have HO185 := n0_; have HO191 := n1_; have HB := n2_; clear n0_ n1_ n2_; clear hb ho46; obtain ⟨Ao47, co47, eo47⟩ := Kd.R_slice HO191.out; subst eo47) | ((with_reducible refine gate_callee (f := 13) rfl ?_); refine goesL_ (some 141) rfl rfl Tryd.func13 (by kernel_rfl) rfl #[.int .i64 (wrap64 (x8_4 + 14)), .slice Ao47 y189.length co47] rfl (by (try simp only [List.map_toArray, List.map_cons, List.map_nil]); first | done | rfl | (simp only [List.length_drop, List.length_take]; rfl)) ?_; (with_reducible refine (num_Eval.calls k2 (wrap64 (x8_4 + 14)) _ _ y189 t192 t193 t194 _ (GL_at HGL.out (by repeat (first | (with_reducible first | exact HB.out | apply below_alloc | apply pw_below_drewN | apply below_drew1) | exact HB.out))) ?side1 ?side2 A39.out).mono ?_); (case side1 => repeat (first | exact (Kd.R_reads' HO191.out).2.2 | (with_reducible refine Kd.C_alloc ?_ _) | (with_reducible refine Kd.C_drewN ?_ _) | (with_reducible refine Kd.C_drew ?_))); (case side2 => exact (Kd.R_reads' HO191.out).2.1); rintro e w48 ⟨rfl, hb⟩; refine ⟨_, rfl, ?_⟩; have n0_ := Aside0.mk (Kd.R_below (by (with_reducible repeat (first | apply Kd.R_alloc | apply Kd.R_drewN | apply Kd.R_drew)); exact HO185.out) hb); have n1_ := Aside0.mk (Kd.R_below (by (with_reducible repeat (first | apply Kd.R_alloc | apply Kd.R_drewN | apply Kd.R_drew)); exact HO191.out) hb); have n2_ := Aside0.mk (below_step (by repeat (first | (with_reducible first | exact HB.out | apply below_alloc | apply pw_below_drewN | apply below_drew1) | exact HB.out)) hb); clear HO185; clear HO191; clear HB; have HO185 := n0_; have HO191 := n1_; have HB := n2_; clear n0_ n1_ n2_; (try clear hb); (try clear hb2); (try clear hk); (try clear hi); (try simp only [errW_none, errW_some])))
            (try simp only [Act.put, List.setIfInBounds_toArray, List.set_cons_zero, List.set_cons_succ])
            go_cut [155] (fun v155 wc => ∃ (kq : Nat) (x155_39 : Bool), v155 = .bool x155_39 ∧ Aside0 (grommetlaw03_NumBack.j3 kq x0_4 t154 x155_39 = some r) ∧ Aside0 (kq ≤ k2) ∧ Aside0 (Below w.heap.size w wc))
            case first =>
              have H := HC40.out
              clear HC40
              rcases t188 with _ | q195
              · have H1 : (if t194.isNone = true then (grommetlaw03_NumBack.j3 k2 x0_4 t154 (t192 != x0_4)) else (grommetlaw03_NumBack.j3 k2 x0_4 t154 true)) = some r := by rw [if_pos (show (none : Option Int).isNone = true by rfl)] at H; exact H
                clear H
                have H := H1
                clear H1
                try simp only [errW_none, errW_some]
                rcases t194 with _ | q196
                · have H1 : (grommetlaw03_NumBack.j3 k2 x0_4 t154 (t192 != x0_4)) = some r := by rw [if_pos (show (none : Option Int).isNone = true by rfl)] at H; exact H
                  clear H
                  have H := H1
                  clear H1
                  try simp only [errW_none, errW_some]
                  have H' := Aside0.mk H
                  clear H
                  go_wp2
                  go_meet
                  case rel => exact ⟨_, ((t192 != x0_4)), (by first | rfl | (simp; done) | (simp [*]; done)), H', ⟨by have := HJ4.out; have := HK2.out; first | omega | exact Nat.le_refl _⟩, ⟨by repeat (first | (with_reducible first | exact HB.out | apply below_alloc | apply pw_below_drewN | apply below_drew1) | exact HB.out)⟩⟩
                · have H1 : (grommetlaw03_NumBack.j3 k2 x0_4 t154 true) = some r := by rw [if_neg (show ¬ (some q196).isNone = true by simp)] at H; exact H
                  clear H
                  have H := H1
                  clear H1
                  try simp only [errW_none, errW_some]
                  have H' := Aside0.mk H
                  clear H
                  go_wp2
                  go_meet
                  case rel => exact ⟨_, (true), (by first | rfl | (simp; done) | (simp [*]; done)), H', ⟨by have := HJ4.out; have := HK2.out; first | omega | exact Nat.le_refl _⟩, ⟨by repeat (first | (with_reducible first | exact HB.out | apply below_alloc | apply pw_below_drewN | apply below_drew1) | exact HB.out)⟩⟩
              · have H1 : (grommetlaw03_NumBack.j3 k2 x0_4 t154 true) = some r := by rw [if_neg (show ¬ (some q195).isNone = true by simp)] at H; exact H
                clear H
                have H := H1
                clear H1
                try simp only [errW_none, errW_some]
                have H' := Aside0.mk H
                clear H
                go_wp2
                go_meet
                case rel => exact ⟨_, (true), (by first | rfl | (simp; done) | (simp [*]; done)), H', ⟨by have := HJ4.out; have := HK2.out; first | omega | exact Nat.le_refl _⟩, ⟨by repeat (first | (with_reducible first | exact HB.out | apply below_alloc | apply pw_below_drewN | apply below_drew1) | exact HB.out)⟩⟩
            case rest =>
              clear HC40
              try clear c1
              try clear q1
              try clear c2
              try clear p2
              try clear c6
              try clear p6
              try clear c7
              try clear c8
              try clear c8b0
              try clear c10
              try clear c13
              try clear q16
              try clear q18
              try clear q19
              try clear c20
              try clear c20b0
              try clear c20b1
              try clear c21
              try clear c21b0
              try clear c21b1
              try clear c22
              try clear c22b0
              try clear c22b1
              try clear c23
              try clear c23b0
              try clear c23b1
              try clear c24
              try clear c24b0
              try clear c24b1
              try clear c25
              try clear c26
              try clear c26b0
              try clear c26b1
              try clear c29
              try clear c29b0
              try clear c29b1
              try clear p2
              try clear p6
              try clear q1
              try clear q16
              try clear q167
              try clear q168
              try clear q181
              try clear q182
              try clear q195
              try clear q196
              obtain ⟨kq, x155_39, rfl, HA, HJ39, HB⟩ := hcut
              cases kq with
              | zero => exact absurd HA.out (by simp [grommetlaw03_NumBack.j3])
              | succ kj39 =>
                have H := HA.out
                clear HA
                simp only [grommetlaw03_NumBack.j3] at H
                by_cases c49 : x155_39 = true
                · subst c49
                  have H1 : (some false) = some r := by rw [if_pos rfl] at H; exact H
                  clear H
                  have H := H1
                  clear H1
                  exact absurd ((Option.some.inj H).trans HRT.out) (by decide)
                · replace c49 := Bool.eq_false_iff.mpr c49
                  subst c49
                  have H1 : ((num_Eval.f kj39 172 (([Int.tmod x0_4 4294967296] : List Int))).bind fun bt200 => ((num_Eval.f kj39 167 (([bt200.1] : List Int))).bind fun bt206 => ((num_Eval.f kj39 173 (([Int.tmod x0_4 4294967296] : List Int))).bind fun bt212 => (if t154 = true then (if bt200.2.2.isNone = true then (if bt206.2.2.isNone = true then (if bt212.2.2.isNone = true then (if bt206.1 = (Int.tmod x0_4 4294967296) then (some (bt212.1 == (Int.tmod x0_4 4294967296))) else (some false)) else (some false)) else (some false)) else (some false)) else (some false))))) = some r := by rw [if_neg (show ¬ (false = true) by decide)] at H; exact H
                  clear H
                  have H := H1
                  clear H1
                  obtain ⟨y197, hy197⟩ : ∃ y_ : List Int, y_ = (([Int.tmod x0_4 4294967296] : List Int)) := ⟨_, rfl⟩
                  replace H : ((num_Eval.f kj39 172 y197).bind fun bt200 => ((num_Eval.f kj39 167 (([bt200.1] : List Int))).bind fun bt206 => ((num_Eval.f kj39 173 (([Int.tmod x0_4 4294967296] : List Int))).bind fun bt212 => (if t154 = true then (if bt200.2.2.isNone = true then (if bt206.2.2.isNone = true then (if bt212.2.2.isNone = true then (if bt206.1 = (Int.tmod x0_4 4294967296) then (some (bt212.1 == (Int.tmod x0_4 4294967296))) else (some false)) else (some false)) else (some false)) else (some false)) else (some false))))) = some r := by first | (rw [hy197]; with_reducible exact H) | (have H2_ := (Option.bind_some _ _).symm.trans H; rw [hy197]; with_reducible exact H2_) | (have H2_ := (Option.bind_some _ _).symm.trans H; with_reducible exact H2_) | with_reducible exact H | (rw [hy197]; exact H) | exact H
                  have Ny197 := Aside0.mk hy197
                  clear hy197
                  replace H := Option.bind_eq_some_iff.mp H
                  obtain ⟨⟨t200, t201, t202⟩, A500, H⟩ := H
                  replace H : ((num_Eval.f kj39 167 (([t200] : List Int))).bind fun bt206 => ((num_Eval.f kj39 173 (([Int.tmod x0_4 4294967296] : List Int))).bind fun bt212 => (if t154 = true then (if t202.isNone = true then (if bt206.2.2.isNone = true then (if bt212.2.2.isNone = true then (if bt206.1 = (Int.tmod x0_4 4294967296) then (some (bt212.1 == (Int.tmod x0_4 4294967296))) else (some false)) else (some false)) else (some false)) else (some false)) else (some false)))) = some r := H
                  have A50 := Aside0.mk A500
                  clear A500
                  obtain ⟨y203, hy203⟩ : ∃ y_ : List Int, y_ = (([t200] : List Int)) := ⟨_, rfl⟩
                  replace H : ((num_Eval.f kj39 167 y203).bind fun bt206 => ((num_Eval.f kj39 173 (([Int.tmod x0_4 4294967296] : List Int))).bind fun bt212 => (if t154 = true then (if t202.isNone = true then (if bt206.2.2.isNone = true then (if bt212.2.2.isNone = true then (if bt206.1 = (Int.tmod x0_4 4294967296) then (some (bt212.1 == (Int.tmod x0_4 4294967296))) else (some false)) else (some false)) else (some false)) else (some false)) else (some false)))) = some r := by first | (rw [hy203]; with_reducible exact H) | (have H2_ := (Option.bind_some _ _).symm.trans H; rw [hy203]; with_reducible exact H2_) | (have H2_ := (Option.bind_some _ _).symm.trans H; with_reducible exact H2_) | with_reducible exact H | (rw [hy203]; exact H) | exact H
                  have Ny203 := Aside0.mk hy203
                  clear hy203
                  replace H := Option.bind_eq_some_iff.mp H
                  obtain ⟨⟨t206, t207, t208⟩, A510, H⟩ := H
                  replace H : ((num_Eval.f kj39 173 (([Int.tmod x0_4 4294967296] : List Int))).bind fun bt212 => (if t154 = true then (if t202.isNone = true then (if t208.isNone = true then (if bt212.2.2.isNone = true then (if t206 = (Int.tmod x0_4 4294967296) then (some (bt212.1 == (Int.tmod x0_4 4294967296))) else (some false)) else (some false)) else (some false)) else (some false)) else (some false))) = some r := H
                  have A51 := Aside0.mk A510
                  clear A510
                  obtain ⟨y209, hy209⟩ : ∃ y_ : List Int, y_ = (([Int.tmod x0_4 4294967296] : List Int)) := ⟨_, rfl⟩
                  replace H : ((num_Eval.f kj39 173 y209).bind fun bt212 => (if t154 = true then (if t202.isNone = true then (if t208.isNone = true then (if bt212.2.2.isNone = true then (if t206 = (Int.tmod x0_4 4294967296) then (some (bt212.1 == (Int.tmod x0_4 4294967296))) else (some false)) else (some false)) else (some false)) else (some false)) else (some false))) = some r := by first | (rw [hy209]; with_reducible exact H) | (have H2_ := (Option.bind_some _ _).symm.trans H; rw [hy209]; with_reducible exact H2_) | (have H2_ := (Option.bind_some _ _).symm.trans H; with_reducible exact H2_) | with_reducible exact H | (rw [hy209]; exact H) | exact H
                  have Ny209 := Aside0.mk hy209
                  clear hy209
                  replace H := Option.bind_eq_some_iff.mp H
                  obtain ⟨⟨t212, t213, t214⟩, A520, H⟩ := H
                  replace H : (if t154 = true then (if t202.isNone = true then (if t208.isNone = true then (if t214.isNone = true then (if t206 = (Int.tmod x0_4 4294967296) then (some (t212 == (Int.tmod x0_4 4294967296))) else (some false)) else (some false)) else (some false)) else (some false)) else (some false)) = some r := H
                  have A52 := Aside0.mk A520
                  clear A520
                  by_cases c53 : t154 = true
                  · subst c53
                    have H1 : (if t202.isNone = true then (if t208.isNone = true then (if t214.isNone = true then (if t206 = (Int.tmod x0_4 4294967296) then (some (t212 == (Int.tmod x0_4 4294967296))) else (some false)) else (some false)) else (some false)) else (some false)) = some r := by rw [if_pos rfl] at H; exact H
                    clear H
                    have H := H1
                    clear H1
                    rcases t202 with _ | q215
                    · have H1 : (if t208.isNone = true then (if t214.isNone = true then (if t206 = (Int.tmod x0_4 4294967296) then (some (t212 == (Int.tmod x0_4 4294967296))) else (some false)) else (some false)) else (some false)) = some r := by rw [if_pos (show (none : Option Int).isNone = true by rfl)] at H; exact H
                      clear H
                      have H := H1
                      clear H1
                      try simp only [errW_none, errW_some]
                      rcases t208 with _ | q216
                      · have H1 : (if t214.isNone = true then (if t206 = (Int.tmod x0_4 4294967296) then (some (t212 == (Int.tmod x0_4 4294967296))) else (some false)) else (some false)) = some r := by rw [if_pos (show (none : Option Int).isNone = true by rfl)] at H; exact H
                        clear H
                        have H := H1
                        clear H1
                        try simp only [errW_none, errW_some]
                        rcases t214 with _ | q217
                        · have H1 : (if t206 = (Int.tmod x0_4 4294967296) then (some (t212 == (Int.tmod x0_4 4294967296))) else (some false)) = some r := by rw [if_pos (show (none : Option Int).isNone = true by rfl)] at H; exact H
                          clear H
                          have H := H1
                          clear H1
                          try simp only [errW_none, errW_some]
                          by_cases c54 : t206 = (Int.tmod x0_4 4294967296)
                          · rw [if_pos c54] at H
                            have c54b0 : (t206 == (Int.tmod x0_4 4294967296)) = true := beq_iff_eq.mpr c54
                            have c54b1 : (t206 != (Int.tmod x0_4 4294967296)) = false := bne_eq_false_iff_eq.mpr c54
                            clear c54
                            obtain rfl := Option.some.inj H
                            go_wp2_with (first | ((with_reducible refine gate_dst (N := 160) rfl ?_); refine Kd.R_lit (Kd.int .u64) _ 28 ?hg (N := 160) ?hd (xs := ([Int.tmod x0_4 4294967296] : List Int)) (inner := [.int .u64 (Int.tmod x0_4 4294967296)]) (ok := fun _ => True) (okp := fun _ => True) ?hr ?hp (fun _ hk => hk) trivial (Below.refl _ _) (Nat.le_refl _) (by simp) ?_; (case hd => rfl); (case hg => rfl); (case hr => first | (go_simp; done) | (go_simp; rfl)); (case hp => exact (Reps.one (show Kd.M (Kd.int .u64) _ _ _ (Int.tmod x0_4 4294967296) [.int .u64 (Int.tmod x0_4 4294967296)] from rfl) (Reps.none _ _))); intro v198 w55 ho56 hb hg_ hnew_; clear hg_ hnew_; (first | rw [← Ny197.out] at ho56 | (simp only [Int.reduceToNat] at ho56; rw [← Ny197.out] at ho56)); have n0_ := Aside0.mk (Kd.R_lower ho56 (below_size (by repeat (first | (with_reducible first | exact HB.out | apply below_alloc | apply pw_below_drewN | apply below_drew1) | exact HB.out)))); have n1_ := Aside0.mk (below_step (by repeat (first | (with_reducible first | exact HB.out | apply below_alloc | apply pw_below_drewN | apply below_drew1) | exact HB.out)) hb); clear HB; have HO199 := n0_; have HB := n1_; clear n0_ n1_; clear hb ho56; obtain ⟨Ao57, co57, eo57⟩ := Kd.R_slice HO199.out; subst eo57) | ((with_reducible refine gate_callee (f := 13) rfl ?_); refine goesL_ (some 161) rfl rfl Tryd.func13 (by kernel_rfl) rfl #[.int .i64 172, .slice Ao57 y197.length co57] rfl (by (try simp only [List.map_toArray, List.map_cons, List.map_nil]); first | done | rfl | (simp only [List.length_drop, List.length_take]; rfl)) ?_; (with_reducible refine (num_Eval.calls kj39 172 _ _ y197 t200 t201 none _ (GL_at HGL.out (by repeat (first | (with_reducible first | exact HB.out | apply below_alloc | apply pw_below_drewN | apply below_drew1) | exact HB.out))) ?side1 ?side2 A50.out).mono ?_); (case side1 => repeat (first | exact (Kd.R_reads' HO199.out).2.2 | (with_reducible refine Kd.C_alloc ?_ _) | (with_reducible refine Kd.C_drewN ?_ _) | (with_reducible refine Kd.C_drew ?_))); (case side2 => exact (Kd.R_reads' HO199.out).2.1); rintro e w58 ⟨rfl, hb⟩; refine ⟨_, rfl, ?_⟩; have n0_ := Aside0.mk (Kd.R_below (by (with_reducible repeat (first | apply Kd.R_alloc | apply Kd.R_drewN | apply Kd.R_drew)); exact HO199.out) hb); have n1_ := Aside0.mk (below_step (by repeat (first | (with_reducible first | exact HB.out | apply below_alloc | apply pw_below_drewN | apply below_drew1) | exact HB.out)) hb); clear HO199; clear HB; have HO199 := n0_; have HB := n1_; clear n0_ n1_; (try clear hb); (try clear hb2); (try clear hk); (try clear hi); (try simp only [errW_none, errW_some])) | ((with_reducible refine gate_dst (N := 167) rfl ?_); refine Kd.R_lit (Kd.int .u64) _ 28 ?hg (N := 167) ?hd (xs := ([t200] : List Int)) (inner := [.int .u64 t200]) (ok := fun _ => True) (okp := fun _ => True) ?hr ?hp (fun _ hk => hk) trivial (Below.refl _ _) (Nat.le_refl _) (by simp) ?_; (case hd => rfl); (case hg => rfl); (case hr => first | (go_simp; done) | (go_simp; rfl)); (case hp => exact (Reps.one (show Kd.M (Kd.int .u64) _ _ _ t200 [.int .u64 t200] from rfl) (Reps.none _ _))); intro v204 w59 ho60 hb hg_ hnew_; clear hg_ hnew_; (first | rw [← Ny203.out] at ho60 | (simp only [Int.reduceToNat] at ho60; rw [← Ny203.out] at ho60)); have n0_ := Aside0.mk (Kd.R_elder' (by (with_reducible repeat (first | apply Kd.R_alloc | apply Kd.R_drewN | apply Kd.R_drew)); exact HO199.out) (Kd.R_base ho60) hb); have n1_ := Aside0.mk (Kd.R_lower (Kd.R_new' ho60 (Kd.R_lt (by (with_reducible repeat (first | apply Kd.R_alloc | apply Kd.R_drewN | apply Kd.R_drew)); exact HO199.out))) (below_size (by repeat (first | (with_reducible first | exact HB.out | apply below_alloc | apply pw_below_drewN | apply below_drew1) | exact HB.out)))); have n2_ := Aside0.mk (below_step (by repeat (first | (with_reducible first | exact HB.out | apply below_alloc | apply pw_below_drewN | apply below_drew1) | exact HB.out)) hb); clear HO199; clear HB; have HO199 := n0_; have HO205 := n1_; have HB := n2_; clear n0_ n1_ n2_; clear hb ho60; obtain ⟨Ao61, co61, eo61⟩ := Kd.R_slice HO205.out; subst eo61) | ((with_reducible refine gate_callee (f := 13) rfl ?_); refine goesL_ (some 168) rfl rfl Tryd.func13 (by kernel_rfl) rfl #[.int .i64 167, .slice Ao61 y203.length co61] rfl (by (try simp only [List.map_toArray, List.map_cons, List.map_nil]); first | done | rfl | (simp only [List.length_drop, List.length_take]; rfl)) ?_; (with_reducible refine (num_Eval.calls kj39 167 _ _ y203 t206 t207 none _ (GL_at HGL.out (by repeat (first | (with_reducible first | exact HB.out | apply below_alloc | apply pw_below_drewN | apply below_drew1) | exact HB.out))) ?side1 ?side2 A51.out).mono ?_); (case side1 => repeat (first | exact (Kd.R_reads' HO205.out).2.2 | (with_reducible refine Kd.C_alloc ?_ _) | (with_reducible refine Kd.C_drewN ?_ _) | (with_reducible refine Kd.C_drew ?_))); (case side2 => exact (Kd.R_reads' HO205.out).2.1); rintro e w62 ⟨rfl, hb⟩; refine ⟨_, rfl, ?_⟩; have n0_ := Aside0.mk (Kd.R_below (by (with_reducible repeat (first | apply Kd.R_alloc | apply Kd.R_drewN | apply Kd.R_drew)); exact HO199.out) hb); have n1_ := Aside0.mk (Kd.R_below (by (with_reducible repeat (first | apply Kd.R_alloc | apply Kd.R_drewN | apply Kd.R_drew)); exact HO205.out) hb); have n2_ := Aside0.mk (below_step (by repeat (first | (with_reducible first | exact HB.out | apply below_alloc | apply pw_below_drewN | apply below_drew1) | exact HB.out)) hb); clear HO199; clear HO205; clear HB; have HO199 := n0_; have HO205 := n1_; have HB := n2_; clear n0_ n1_ n2_; (try clear hb); (try clear hb2); (try clear hk); (try clear hi); (try simp only [errW_none, errW_some])) | ((with_reducible refine gate_dst (N := 174) rfl ?_); refine Kd.R_lit (Kd.int .u64) _ 28 ?hg (N := 174) ?hd (xs := ([Int.tmod x0_4 4294967296] : List Int)) (inner := [.int .u64 (Int.tmod x0_4 4294967296)]) (ok := fun _ => True) (okp := fun _ => True) ?hr ?hp (fun _ hk => hk) trivial (Below.refl _ _) (Nat.le_refl _) (by simp) ?_; (case hd => rfl); (case hg => rfl); (case hr => first | (go_simp; done) | (go_simp; rfl)); (case hp => exact (Reps.one (show Kd.M (Kd.int .u64) _ _ _ (Int.tmod x0_4 4294967296) [.int .u64 (Int.tmod x0_4 4294967296)] from rfl) (Reps.none _ _))); intro v210 w63 ho64 hb hg_ hnew_; clear hg_ hnew_; (first | rw [← Ny209.out] at ho64 | (simp only [Int.reduceToNat] at ho64; rw [← Ny209.out] at ho64)); have n0_ := Aside0.mk (Kd.R_elder' (by (with_reducible repeat (first | apply Kd.R_alloc | apply Kd.R_drewN | apply Kd.R_drew)); exact HO199.out) (Kd.R_base ho64) hb); have n1_ := Aside0.mk (Kd.R_elder' (by (with_reducible repeat (first | apply Kd.R_alloc | apply Kd.R_drewN | apply Kd.R_drew)); exact HO205.out) (Kd.R_base ho64) hb); have n2_ := Aside0.mk (Kd.R_lower (Kd.R_new' (Kd.R_new' ho64 (Kd.R_lt (by (with_reducible repeat (first | apply Kd.R_alloc | apply Kd.R_drewN | apply Kd.R_drew)); exact HO199.out))) (Kd.R_lt (by (with_reducible repeat (first | apply Kd.R_alloc | apply Kd.R_drewN | apply Kd.R_drew)); exact HO205.out))) (below_size (by repeat (first | (with_reducible first | exact HB.out | apply below_alloc | apply pw_below_drewN | apply below_drew1) | exact HB.out)))); have n3_ := Aside0.mk (below_step (by repeat (first | (with_reducible first | exact HB.out | apply below_alloc | apply pw_below_drewN | apply below_drew1) | exact HB.out)) hb); clear HO199; clear HO205; clear HB; have HO199 := n0_; have HO205 := n1_; have HO211 := n2_; have HB := n3_; clear n0_ n1_ n2_ n3_; clear hb ho64; obtain ⟨Ao65, co65, eo65⟩ := Kd.R_slice HO211.out; subst eo65) | ((with_reducible refine gate_callee (f := 13) rfl ?_); refine goesL_ (some 175) rfl rfl Tryd.func13 (by kernel_rfl) rfl #[.int .i64 173, .slice Ao65 y209.length co65] rfl (by (try simp only [List.map_toArray, List.map_cons, List.map_nil]); first | done | rfl | (simp only [List.length_drop, List.length_take]; rfl)) ?_; (with_reducible refine (num_Eval.calls kj39 173 _ _ y209 t212 t213 none _ (GL_at HGL.out (by repeat (first | (with_reducible first | exact HB.out | apply below_alloc | apply pw_below_drewN | apply below_drew1) | exact HB.out))) ?side1 ?side2 A52.out).mono ?_); (case side1 => repeat (first | exact (Kd.R_reads' HO211.out).2.2 | (with_reducible refine Kd.C_alloc ?_ _) | (with_reducible refine Kd.C_drewN ?_ _) | (with_reducible refine Kd.C_drew ?_))); (case side2 => exact (Kd.R_reads' HO211.out).2.1); rintro e w66 ⟨rfl, hb⟩; refine ⟨_, rfl, ?_⟩; have n0_ := Aside0.mk (Kd.R_below (by (with_reducible repeat (first | apply Kd.R_alloc | apply Kd.R_drewN | apply Kd.R_drew)); exact HO199.out) hb); have n1_ := Aside0.mk (Kd.R_below (by (with_reducible repeat (first | apply Kd.R_alloc | apply Kd.R_drewN | apply Kd.R_drew)); exact HO205.out) hb); have n2_ := Aside0.mk (Kd.R_below (by (with_reducible repeat (first | apply Kd.R_alloc | apply Kd.R_drewN | apply Kd.R_drew)); exact HO211.out) hb); have n3_ := Aside0.mk (below_step (by repeat (first | (with_reducible first | exact HB.out | apply below_alloc | apply pw_below_drewN | apply below_drew1) | exact HB.out)) hb); clear HO199; clear HO205; clear HO211; clear HB; have HO199 := n0_; have HO205 := n1_; have HO211 := n2_; have HB := n3_; clear n0_ n1_ n2_ n3_; (try clear hb); (try clear hb2); (try clear hk); (try clear hi); (try simp only [errW_none, errW_some])))
                            go_ret
                            exact ⟨by first | rfl | (simp [errW_none, errW_some] <;> rfl) | (simp [*, errW_none, errW_some] <;> rfl), by repeat (first | (with_reducible first | exact HB.out | apply below_alloc | apply pw_below_drewN | apply below_drew1) | exact HB.out)⟩
                          · rw [if_neg c54] at H
                            have c54b0 : (t206 == (Int.tmod x0_4 4294967296)) = false := beq_eq_false_iff_ne.mpr c54
                            have c54b1 : (t206 != (Int.tmod x0_4 4294967296)) = true := bne_iff_ne.mpr c54
                            exact absurd ((Option.some.inj H).trans HRT.out) (by decide)
                        · have H1 : (some false) = some r := by rw [if_neg (show ¬ (some q217).isNone = true by simp)] at H; exact H
                          clear H
                          have H := H1
                          clear H1
                          try simp only [errW_none, errW_some]
                          exact absurd ((Option.some.inj H).trans HRT.out) (by decide)
                      · have H1 : (some false) = some r := by rw [if_neg (show ¬ (some q216).isNone = true by simp)] at H; exact H
                        clear H
                        have H := H1
                        clear H1
                        try simp only [errW_none, errW_some]
                        exact absurd ((Option.some.inj H).trans HRT.out) (by decide)
                    · have H1 : (some false) = some r := by rw [if_neg (show ¬ (some q215).isNone = true by simp)] at H; exact H
                      clear H
                      have H := H1
                      clear H1
                      try simp only [errW_none, errW_some]
                      exact absurd ((Option.some.inj H).trans HRT.out) (by decide)
                  · replace c53 := Bool.eq_false_iff.mpr c53
                    subst c53
                    have H1 : (some false) = some r := by rw [if_neg (show ¬ (false = true) by decide)] at H; exact H
                    clear H
                    have H := H1
                    clear H1
                    exact absurd ((Option.some.inj H).trans HRT.out) (by decide)

/-- THE ONE PURE STATEMENT of grommetlaw03_NumBack: yours. -/
def grommetlaw03_NumBack.Pure : Prop := ∀ (a0 : Int) (a1 : Int) (a2 : Bool), (Lit.int .u64 a0).wf = true → (Lit.int .u64 a1).wf = true → ∃ k, grommetlaw03_NumBack.f k a0 a1 a2 = some true
theorem grommetlaw03_NumBack.walk (P : grommetlaw03_NumBack.Pure) (a0 : Int) (a1 : Int) (a2 : Bool) (w : World) (hG : GL w) (w0 : (Lit.int .u64 a0).wf = true) (w1 : (Lit.int .u64 a1).wf = true) :
    Calls Tryd.prog 6 #[.int .u64 a0, .int .u64 a1, .bool a2] w fun e w' => e = .returned (.bool true) ∧ Below w.heap.size w w' := by
  obtain ⟨k, h⟩ := P a0 a1 a2 w0 w1
  refine (grommetlaw03_NumBack.calls k a0 a1 a2 true w hG h rfl).mono ?_
  rintro e w' ⟨rfl, hd⟩
  exact ⟨rfl, hd⟩

end Go.Proofs.YtgplakhkofchiaaDoor.RNumBack
