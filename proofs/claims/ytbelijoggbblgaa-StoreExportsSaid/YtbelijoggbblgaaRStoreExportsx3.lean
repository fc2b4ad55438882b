-- Made by the program wip/patchprint.py (this session's own, over the kit's print)
import Derived.Test.YtbelijoggbblgaaRStoreExportsx0
namespace Go.Proofs.Ytbelijoggbblgaa.RStoreExports
open Go.RowKit Go.Proofs.Ytbelijoggbblgaa.Man Go.Proofs.YtbelijoggbblgaaW.PrintWords Go.Proofs.YtbelijoggbblgaaW.PrintLast
set_option linter.unusedVariables false
set_option linter.unusedSimpArgs false
set_option linter.unnecessarySimpa false

/-! ### store_code: function 55 -/
mutual
def store_code.l0 : Nat → List (S104) → List (S104) → Int → Int → Option ((List (S104)))
  | 0, _, _, _, _ => none
  | k + 1, x3, x6, x7, x8 => if x8 < x7 then (if 0 ≤ x8 then (if x8 < (x6.length : Int) then ((slices_Clone_int_int.f ((rd_T104 x6 x8).f5)).bind fun t148 => ((store_code.f k ((rd_T104 x6 x8).f6)).bind fun t151 => ((store_code.f k ((rd_T104 x6 x8).f7)).bind fun t154 => (if x3.length < 1172812402961 then (store_code.l0 k (x3 ++ [(⟨(rd_T104 x6 x8).f0, (rd_T104 x6 x8).f1, (rd_T104 x6 x8).f2, (rd_T104 x6 x8).f3, (rd_T104 x6 x8).f4, t148, t151, t154, (rd_T104 x6 x8).f8⟩ : S104)]) x6 x7 (wrap64 (x8 + 1))) else (none))))) else (none)) else (none)) else (some x3)
def store_code.f : Nat → List (S104) → Option ((List (S104)))
  | 0, _ => none
  | k + 1, l0 => store_code.l0 k ([] : List (S104)) l0 (l0.length : Int) 0
end
theorem store_code.mono_l : ∀ k, (∀ y0, LeO (store_code.f k y0) (store_code.f (k + 1) y0)) ∧ (∀ y0 y1 y2 y3, LeO (store_code.l0 k y0 y1 y2 y3) (store_code.l0 (k + 1) y0 y1 y2 y3))
  | 0 => ⟨fun _ r h => by simp [store_code.f] at h, fun _ _ _ _ r h => by simp [store_code.l0] at h⟩
  | k + 1 => by
    obtain ⟨ih0, ih1⟩ := store_code.mono_l k
    refine ⟨?_, ?_⟩
    · intro y0
      unfold store_code.f
      repeat' first
      | (with_reducible exact ih0 _)
      | (with_reducible exact ih1 _ _ _ _)
      | (with_reducible exact LeO.refl _)
      | (with_reducible exact LeO.none _)
      | (with_reducible refine LeO.ite ?_ ?_)
      | (with_reducible refine LeO.bind ?_ (fun _ => ?_))
      | exact ih0 _
      | exact ih1 _ _ _ _
      | exact LeO.none _
      | refine LeO.ite ?_ ?_
      | refine LeO.bind ?_ (fun _ => ?_)
    · intro y0 y1 y2 y3
      unfold store_code.l0
      repeat' first
      | (with_reducible exact ih0 _)
      | (with_reducible exact ih1 _ _ _ _)
      | (with_reducible exact LeO.refl _)
      | (with_reducible exact LeO.none _)
      | (with_reducible refine LeO.ite ?_ ?_)
      | (with_reducible refine LeO.bind ?_ (fun _ => ?_))
      | exact ih0 _
      | exact ih1 _ _ _ _
      | exact LeO.none _
      | refine LeO.ite ?_ ?_
      | refine LeO.bind ?_ (fun _ => ?_)
theorem store_code.mono : ∀ a0 k, LeO (store_code.f k a0) (store_code.f (k + 1) a0) := by
  intro a0 k
  obtain ⟨ih0, ih1⟩ := store_code.mono_l k
  exact ih0 a0
def store_code.T5 : Bool × List (List Nat × List Nat) := (true, [([], []), ([0], [0]), ([1], [1]), ([], []), ([3], [3]), ([4, 2], [4]), ([], []), ([6], [6]), ([7, 5], [7]), ([0, 1, 2, 3, 4, 6, 7], []), ([9, 2, 8, 0, 1, 2, 3, 4, 6, 7], [2, 9]), ([0, 1, 2, 3, 4, 5, 6, 7, 9, 10], []), ([11, 5, 10, 0, 1, 2, 3, 4, 5, 6, 7, 9, 10], [5, 11]), ([0, 1, 2, 3, 4, 5, 6, 7, 8, 9, 10, 11, 12], []), ([13, 8, 12, 0, 1, 2, 3, 4, 5, 6, 7, 8, 9, 10, 11, 12], [8, 13])])
def store_code.B5 : List Nat := [0, 1, 3, 0, 8, 31, 0, 64, 255, 223, 1023, 2047, 4095, 8191, 16383]
theorem store_code.tab5 : rtab .any (opsOf Try.f55 5) = store_code.T5 := by kernel_rfl
theorem store_code.bits5 : waitsOk store_code.T5.2 store_code.B5 = true := by kernel_rfl
set_option maxHeartbeats 8000000 in
set_option maxRecDepth 100000 in
theorem store_code.calls (k : Nat) : ∀ (A0 : Option Addr) (c0 : Nat) (l0 : List (S104)) (r : List (S104)) (w : World) (hr0 : Kd.C k104 w A0 l0.length l0) (hc0 : l0.length ≤ c0) (h : store_code.f k l0 = some r),
    Calls Try.prog 55 #[.slice A0 l0.length c0] w fun e w' => ∃ v0_ : Value, e = .returned (v0_) ∧ Kd.R k104 104 w' w.heap.size (fun _ => True) v0_ r ∧ Below w.heap.size w w' := by
  induction k using Nat.strongRecOn with
  | _ k ih =>
  intro A0 c0 l0 r w hr0 hc0 h
  cases k with
  | zero => exact absurd h (by simp [store_code.f])
  | succ k =>
  simp only [store_code.f] at h
  have hu104 := Try.underlying104
  have HR0 := Aside0.mk hr0
  have HC0 := Aside0.mk hc0
  clear hr0 hc0
  have HB := Aside0.mk (Below.refl w.heap.size w)
  have H : (store_code.l0 k ([] : List (S104)) l0 (l0.length : Int) 0) = some r := h
  clear h
  have H' := Aside0.mk H
  clear H
  go_enter Try.func55, Try.ntmps55
  go_wp2
  go_loopg [3, 8] k (fun kq v3 v8 w' => ∃ (x3_1 : List (S104)) (x8_1 : Int), v8 = .int .i64 x8_1 ∧ Aside0 (store_code.l0 kq x3_1 l0 (l0.length : Int) x8_1 = some r) ∧ Aside0 (kq ≤ k) ∧ Aside0 (Kd.R k104 104 w' w.heap.size (fun _ => True) v3 x3_1) ∧ Aside0 (Below w.heap.size w w'))
  case atStart => exact ⟨(([] : List (S104))), (0), (by first | rfl | (simp; done) | (simp [*]; done)), H', ⟨Nat.le_refl _⟩, ⟨by first | exact Kd.R_nil _ _ _ _ _ | exact Kd.N_nil _ _ _ _ _ | exact Kd.V_nil _ _ _ _ _ | exact Kd.Q_nil _ _ _ _ _ | exact Kd.S_nil _ _ _ _ _⟩, ⟨by repeat (first | (with_reducible first | exact HB.out | apply below_alloc | apply pw_below_drewN | apply below_drew1) | exact HB.out)⟩⟩
  case round =>
    clear H'
    obtain ⟨x3_1, x8_1, rfl, HA, HK1, HO_3, HB⟩ := hrel
    cases gk with
    | zero => exact absurd HA.out (by simp [store_code.l0])
    | succ k1 =>
      have H := HA.out
      clear HA
      simp only [store_code.l0] at H
      by_cases c2 : x8_1 < (l0.length : Int)
      · rw [if_pos c2] at H
        have c2b0 : decide (x8_1 < (l0.length : Int)) = true := decide_eq_true c2
        clear c2
        by_cases c3 : 0 ≤ x8_1
        · rw [if_pos c3] at H
          have c3b0 : decide (0 ≤ x8_1) = true := decide_eq_true c3
          clear c3
          by_cases c4 : x8_1 < (l0.length : Int)
          · rw [if_pos c4] at H
            have c4b0 : decide (x8_1 < (l0.length : Int)) = true := decide_eq_true c4
            clear c4
            replace H := Option.bind_eq_some_iff.mp H
            obtain ⟨t148, A50, H⟩ := H
            replace H : ((store_code.f k1 ((rd_T104 l0 x8_1).f6)).bind fun t151 => ((store_code.f k1 ((rd_T104 l0 x8_1).f7)).bind fun t154 => (if x3_1.length < 1172812402961 then (store_code.l0 k1 (x3_1 ++ [(⟨(rd_T104 l0 x8_1).f0, (rd_T104 l0 x8_1).f1, (rd_T104 l0 x8_1).f2, (rd_T104 l0 x8_1).f3, (rd_T104 l0 x8_1).f4, t148, t151, t154, (rd_T104 l0 x8_1).f8⟩ : S104)]) l0 (l0.length : Int) (wrap64 (x8_1 + 1))) else (none)))) = some r := H
            have A5 := Aside0.mk A50
            clear A50
            replace H := Option.bind_eq_some_iff.mp H
            obtain ⟨t151, A60, H⟩ := H
            replace H : ((store_code.f k1 ((rd_T104 l0 x8_1).f7)).bind fun t154 => (if x3_1.length < 1172812402961 then (store_code.l0 k1 (x3_1 ++ [(⟨(rd_T104 l0 x8_1).f0, (rd_T104 l0 x8_1).f1, (rd_T104 l0 x8_1).f2, (rd_T104 l0 x8_1).f3, (rd_T104 l0 x8_1).f4, t148, t151, t154, (rd_T104 l0 x8_1).f8⟩ : S104)]) l0 (l0.length : Int) (wrap64 (x8_1 + 1))) else (none))) = some r := H
            have A6 := Aside0.mk A60
            clear A60
            replace H := Option.bind_eq_some_iff.mp H
            obtain ⟨t154, A70, H⟩ := H
            replace H : (if x3_1.length < 1172812402961 then (store_code.l0 k1 (x3_1 ++ [(⟨(rd_T104 l0 x8_1).f0, (rd_T104 l0 x8_1).f1, (rd_T104 l0 x8_1).f2, (rd_T104 l0 x8_1).f3, (rd_T104 l0 x8_1).f4, t148, t151, t154, (rd_T104 l0 x8_1).f8⟩ : S104)]) l0 (l0.length : Int) (wrap64 (x8_1 + 1))) else (none)) = some r := H
            have A7 := Aside0.mk A70
            clear A70
            by_cases c8 : x3_1.length < 1172812402961
            · rw [if_pos c8] at H
              have LMc8 := Aside0.mk c8
              clear c8
              obtain ⟨y157, hy157⟩ : ∃ y_ : List (S104), y_ = (x3_1 ++ [(⟨(rd_T104 l0 x8_1).f0, (rd_T104 l0 x8_1).f1, (rd_T104 l0 x8_1).f2, (rd_T104 l0 x8_1).f3, (rd_T104 l0 x8_1).f4, t148, t151, t154, (rd_T104 l0 x8_1).f8⟩ : S104)]) := ⟨_, rfl⟩
              replace H : (store_code.l0 k1 y157 l0 (l0.length : Int) (wrap64 (x8_1 + 1))) = some r := by first | (rw [hy157]; with_reducible exact H) | (have H2_ := (Option.bind_some _ _).symm.trans H; rw [hy157]; with_reducible exact H2_) | (have H2_ := (Option.bind_some _ _).symm.trans H; with_reducible exact H2_) | with_reducible exact H | (rw [hy157]; exact H) | exact H
              have Ny157 := Aside0.mk hy157
              clear hy157
              have H' := Aside0.mk H
              clear H
              have p146 : 0 ≤ (x8_1 : Int) := of_decide_eq_true (by first | (with_reducible assumption) | assumption)
              have q146 : x8_1 < (l0.length : Int) := of_decide_eq_true (by first | (with_reducible assumption) | assumption)
              obtain ⟨ad146, A146_5, c146_5, A146_6, c146_6, A146_7, c146_7, e146, hx146_0, hx146_1, hx146_2, hx146_3, hx146_4, hx146_5, hx146_6, hx146_7, hx146_8, hl146_5, hi146_5, hl146_6, hi146_6, hl146_7, hi146_7⟩ := at_T104 HR0.out x8_1 p146 q146
              cases e146
              replace hx146_0 := (HB.out.cell (World.block_lt_of_cell? w _ hx146_0)).trans hx146_0
              replace hx146_1 := (HB.out.cell (World.block_lt_of_cell? w _ hx146_1)).trans hx146_1
              replace hx146_2 := (HB.out.cell (World.block_lt_of_cell? w _ hx146_2)).trans hx146_2
              replace hx146_3 := (HB.out.cell (World.block_lt_of_cell? w _ hx146_3)).trans hx146_3
              replace hx146_4 := (HB.out.cell (World.block_lt_of_cell? w _ hx146_4)).trans hx146_4
              replace hx146_5 := (HB.out.cell (World.block_lt_of_cell? w _ hx146_5)).trans hx146_5
              replace hx146_6 := (HB.out.cell (World.block_lt_of_cell? w _ hx146_6)).trans hx146_6
              replace hx146_7 := (HB.out.cell (World.block_lt_of_cell? w _ hx146_7)).trans hx146_7
              replace hx146_8 := (HB.out.cell (World.block_lt_of_cell? w _ hx146_8)).trans hx146_8
              have HR146_5 := Aside0.mk hi146_5
              have HC146_5 := Aside0.mk hl146_5
              clear hi146_5 hl146_5
              have HR146_6 := Aside0.mk hi146_6
              have HC146_6 := Aside0.mk hl146_6
              clear hi146_6 hl146_6
              have HR146_7 := Aside0.mk hi146_7
              have HC146_7 := Aside0.mk hl146_7
              clear hi146_7 hl146_7
              replace p146 := eq_true p146
              replace q146 := eq_true q146
              try go_wp2_with (first | ((with_reducible refine gate_dst (N := 5) rfl ?_); refine box_event ?hg (N := 5) ?hd (cs := #[.int .i64 0, .int .i64 0, .int .i64 0, .int .u64 0, .int .i64 0, .slice none 0 0, .slice none 0 0, .slice none 0 0, .bool false]) (t := 104) ?hr ?_; (case hd => rfl); (case hg => rfl); (case hr => first | (go_simp; done) | (go_simp; rfl)); intro gb147 hg w9 hbox hb; have n0_ := Aside0.mk (Kd.R_below (Kd.R_elderB (by (with_reducible repeat (first | apply Kd.R_alloc | apply Kd.R_drewN | apply Kd.R_drew)); exact HO_3.out) gb147 (Nat.le_of_eq hg.symm)) hb); have n1_ := Aside0.mk (below_step (by repeat (first | (with_reducible first | exact HB.out | apply below_alloc | apply pw_below_drewN | apply below_drew1) | exact HB.out)) hb); have n2_ := Aside0.mk (hbox); have n3_ := Aside0.mk ((by rw [hg]; exact (below_size (by repeat (first | (with_reducible first | exact HB.out | apply below_alloc | apply pw_below_drewN | apply below_drew1) | exact HB.out))) : w.heap.size ≤ gb147)); have n4_ := Aside0.mk ((by rw [hg]; exact (below_size (by repeat (first | (with_reducible first | exact HB.out | apply below_alloc | apply pw_below_drewN | apply below_drew1) | exact HB.out))) : w.heap.size ≤ gb147)); clear HO_3; clear HB; have HO_3 := n0_; have HB := n1_; have BK147 := n2_; have GW147 := n3_; have GE147 := n4_; clear n0_ n1_ n2_ n3_ n4_; clear hb hbox hg; have hcz10_0 : w9.cell? ⟨gb147, 0, none⟩ = some (.int .i64 0) := (blk_cell BK147.out 0).trans rfl; have hcz10_1 : w9.cell? ⟨gb147, 1, none⟩ = some (.int .i64 0) := (blk_cell BK147.out 1).trans rfl; have hcz10_2 : w9.cell? ⟨gb147, 2, none⟩ = some (.int .i64 0) := (blk_cell BK147.out 2).trans rfl; have hcz10_3 : w9.cell? ⟨gb147, 3, none⟩ = some (.int .u64 0) := (blk_cell BK147.out 3).trans rfl; have hcz10_4 : w9.cell? ⟨gb147, 4, none⟩ = some (.int .i64 0) := (blk_cell BK147.out 4).trans rfl; have hcz10_5 : w9.cell? ⟨gb147, 5, none⟩ = some (.slice none 0 0) := (blk_cell BK147.out 5).trans rfl; have hcz10_6 : w9.cell? ⟨gb147, 6, none⟩ = some (.slice none 0 0) := (blk_cell BK147.out 6).trans rfl; have hcz10_7 : w9.cell? ⟨gb147, 7, none⟩ = some (.slice none 0 0) := (blk_cell BK147.out 7).trans rfl; have hcz10_8 : w9.cell? ⟨gb147, 8, none⟩ = some (.bool false) := (blk_cell BK147.out 8).trans rfl; have hfz10_0 := blk_frozen BK147.out 0; have hfz10_1 := blk_frozen BK147.out 1; have hfz10_2 := blk_frozen BK147.out 2; have hfz10_3 := blk_frozen BK147.out 3; have hfz10_4 := blk_frozen BK147.out 4; have hfz10_5 := blk_frozen BK147.out 5; have hfz10_6 := blk_frozen BK147.out 6; have hfz10_7 := blk_frozen BK147.out 7; have hfz10_8 := blk_frozen BK147.out 8))
              have n0_ : Aside0 (Kd.R k104 104 (((((((((w9.setCell ⟨gb147, 0, none⟩ (.int .i64 ((rd_T104 l0 x8_1).f0))).setCell ⟨gb147, 1, none⟩ (.int .i64 ((rd_T104 l0 x8_1).f1))).setCell ⟨gb147, 2, none⟩ (.int .i64 ((rd_T104 l0 x8_1).f2))).setCell ⟨gb147, 3, none⟩ (.int .u64 ((rd_T104 l0 x8_1).f3))).setCell ⟨gb147, 4, none⟩ (.int .i64 ((rd_T104 l0 x8_1).f4))).setCell ⟨gb147, 5, none⟩ (.slice A146_5 ((rd_T104 l0 x8_1).f5).length c146_5)).setCell ⟨gb147, 6, none⟩ (.slice A146_6 ((rd_T104 l0 x8_1).f6).length c146_6)).setCell ⟨gb147, 7, none⟩ (.slice A146_7 ((rd_T104 l0 x8_1).f7).length c146_7)).setCell ⟨gb147, 8, none⟩ (.bool ((rd_T104 l0 x8_1).f8))) w.heap.size (fun k_ => k_ ≠ gb147) u3 x3_1) := ⟨by (with_reducible repeat (first | apply Kd.R_alloc | apply Kd.R_drewN | apply Kd.R_drew)); exact Kd.R_mono (Kd.R_far (p := ⟨gb147, 8, none⟩) (Kd.R_far (p := ⟨gb147, 7, none⟩) (Kd.R_far (p := ⟨gb147, 6, none⟩) (Kd.R_far (p := ⟨gb147, 5, none⟩) (Kd.R_far (p := ⟨gb147, 4, none⟩) (Kd.R_far (p := ⟨gb147, 3, none⟩) (Kd.R_far (p := ⟨gb147, 2, none⟩) (Kd.R_far (p := ⟨gb147, 1, none⟩) (Kd.R_far (p := ⟨gb147, 0, none⟩) (Kd.R_mono HO_3.out (fun k_ hk => (⟨hk, hk.2⟩ : _ ∧ k_ ≠ gb147))) (fun _ hk => hk.2) (.int .i64 ((rd_T104 l0 x8_1).f0))) (fun _ hk => hk.2) (.int .i64 ((rd_T104 l0 x8_1).f1))) (fun _ hk => hk.2) (.int .i64 ((rd_T104 l0 x8_1).f2))) (fun _ hk => hk.2) (.int .u64 ((rd_T104 l0 x8_1).f3))) (fun _ hk => hk.2) (.int .i64 ((rd_T104 l0 x8_1).f4))) (fun _ hk => hk.2) (.slice A146_5 ((rd_T104 l0 x8_1).f5).length c146_5)) (fun _ hk => hk.2) (.slice A146_6 ((rd_T104 l0 x8_1).f6).length c146_6)) (fun _ hk => hk.2) (.slice A146_7 ((rd_T104 l0 x8_1).f7).length c146_7)) (fun _ hk => hk.2) (.bool ((rd_T104 l0 x8_1).f8))) (fun _ hk => hk.1.2)⟩
              have n1_ : Aside0 ((((((((((w9.setCell ⟨gb147, 0, none⟩ (.int .i64 ((rd_T104 l0 x8_1).f0))).setCell ⟨gb147, 1, none⟩ (.int .i64 ((rd_T104 l0 x8_1).f1))).setCell ⟨gb147, 2, none⟩ (.int .i64 ((rd_T104 l0 x8_1).f2))).setCell ⟨gb147, 3, none⟩ (.int .u64 ((rd_T104 l0 x8_1).f3))).setCell ⟨gb147, 4, none⟩ (.int .i64 ((rd_T104 l0 x8_1).f4))).setCell ⟨gb147, 5, none⟩ (.slice A146_5 ((rd_T104 l0 x8_1).f5).length c146_5)).setCell ⟨gb147, 6, none⟩ (.slice A146_6 ((rd_T104 l0 x8_1).f6).length c146_6)).setCell ⟨gb147, 7, none⟩ (.slice A146_7 ((rd_T104 l0 x8_1).f7).length c146_7)).setCell ⟨gb147, 8, none⟩ (.bool ((rd_T104 l0 x8_1).f8))).heap[gb147]? = some (.cells #[.int .i64 ((rd_T104 l0 x8_1).f0), .int .i64 ((rd_T104 l0 x8_1).f1), .int .i64 ((rd_T104 l0 x8_1).f2), .int .u64 ((rd_T104 l0 x8_1).f3), .int .i64 ((rd_T104 l0 x8_1).f4), .slice A146_5 ((rd_T104 l0 x8_1).f5).length c146_5, .slice A146_6 ((rd_T104 l0 x8_1).f6).length c146_6, .slice A146_7 ((rd_T104 l0 x8_1).f7).length c146_7, .bool ((rd_T104 l0 x8_1).f8)] 104 (0, 0))) := ⟨by (with_reducible repeat (first | refine blk_drewN ?_ _ | refine blk_drew ?_ | refine blk_alloc ?_ _)); refine blk_put (cs := #[.int .i64 ((rd_T104 l0 x8_1).f0), .int .i64 ((rd_T104 l0 x8_1).f1), .int .i64 ((rd_T104 l0 x8_1).f2), .int .u64 ((rd_T104 l0 x8_1).f3), .int .i64 ((rd_T104 l0 x8_1).f4), .slice A146_5 ((rd_T104 l0 x8_1).f5).length c146_5, .slice A146_6 ((rd_T104 l0 x8_1).f6).length c146_6, .slice A146_7 ((rd_T104 l0 x8_1).f7).length c146_7, .bool false]) ?_ 8 _ rfl; (with_reducible repeat (first | refine blk_drewN ?_ _ | refine blk_drew ?_ | refine blk_alloc ?_ _)); refine blk_put (cs := #[.int .i64 ((rd_T104 l0 x8_1).f0), .int .i64 ((rd_T104 l0 x8_1).f1), .int .i64 ((rd_T104 l0 x8_1).f2), .int .u64 ((rd_T104 l0 x8_1).f3), .int .i64 ((rd_T104 l0 x8_1).f4), .slice A146_5 ((rd_T104 l0 x8_1).f5).length c146_5, .slice A146_6 ((rd_T104 l0 x8_1).f6).length c146_6, .slice none 0 0, .bool false]) ?_ 7 _ rfl; (with_reducible repeat (first | refine blk_drewN ?_ _ | refine blk_drew ?_ | refine blk_alloc ?_ _)); refine blk_put (cs := #[.int .i64 ((rd_T104 l0 x8_1).f0), .int .i64 ((rd_T104 l0 x8_1).f1), .int .i64 ((rd_T104 l0 x8_1).f2), .int .u64 ((rd_T104 l0 x8_1).f3), .int .i64 ((rd_T104 l0 x8_1).f4), .slice A146_5 ((rd_T104 l0 x8_1).f5).length c146_5, .slice none 0 0, .slice none 0 0, .bool false]) ?_ 6 _ rfl; (with_reducible repeat (first | refine blk_drewN ?_ _ | refine blk_drew ?_ | refine blk_alloc ?_ _)); refine blk_put (cs := #[.int .i64 ((rd_T104 l0 x8_1).f0), .int .i64 ((rd_T104 l0 x8_1).f1), .int .i64 ((rd_T104 l0 x8_1).f2), .int .u64 ((rd_T104 l0 x8_1).f3), .int .i64 ((rd_T104 l0 x8_1).f4), .slice none 0 0, .slice none 0 0, .slice none 0 0, .bool false]) ?_ 5 _ rfl; (with_reducible repeat (first | refine blk_drewN ?_ _ | refine blk_drew ?_ | refine blk_alloc ?_ _)); refine blk_put (cs := #[.int .i64 ((rd_T104 l0 x8_1).f0), .int .i64 ((rd_T104 l0 x8_1).f1), .int .i64 ((rd_T104 l0 x8_1).f2), .int .u64 ((rd_T104 l0 x8_1).f3), .int .i64 0, .slice none 0 0, .slice none 0 0, .slice none 0 0, .bool false]) ?_ 4 _ rfl; (with_reducible repeat (first | refine blk_drewN ?_ _ | refine blk_drew ?_ | refine blk_alloc ?_ _)); refine blk_put (cs := #[.int .i64 ((rd_T104 l0 x8_1).f0), .int .i64 ((rd_T104 l0 x8_1).f1), .int .i64 ((rd_T104 l0 x8_1).f2), .int .u64 0, .int .i64 0, .slice none 0 0, .slice none 0 0, .slice none 0 0, .bool false]) ?_ 3 _ rfl; (with_reducible repeat (first | refine blk_drewN ?_ _ | refine blk_drew ?_ | refine blk_alloc ?_ _)); refine blk_put (cs := #[.int .i64 ((rd_T104 l0 x8_1).f0), .int .i64 ((rd_T104 l0 x8_1).f1), .int .i64 0, .int .u64 0, .int .i64 0, .slice none 0 0, .slice none 0 0, .slice none 0 0, .bool false]) ?_ 2 _ rfl; (with_reducible repeat (first | refine blk_drewN ?_ _ | refine blk_drew ?_ | refine blk_alloc ?_ _)); refine blk_put (cs := #[.int .i64 ((rd_T104 l0 x8_1).f0), .int .i64 0, .int .i64 0, .int .u64 0, .int .i64 0, .slice none 0 0, .slice none 0 0, .slice none 0 0, .bool false]) ?_ 1 _ rfl; (with_reducible repeat (first | refine blk_drewN ?_ _ | refine blk_drew ?_ | refine blk_alloc ?_ _)); refine blk_put (cs := #[.int .i64 0, .int .i64 0, .int .i64 0, .int .u64 0, .int .i64 0, .slice none 0 0, .slice none 0 0, .slice none 0 0, .bool false]) ?_ 0 _ rfl; (with_reducible repeat (first | refine blk_drewN ?_ _ | refine blk_drew ?_ | refine blk_alloc ?_ _)); exact BK147.out⟩
              have n2_ : Aside0 (Below w.heap.size w (((((((((w9.setCell ⟨gb147, 0, none⟩ (.int .i64 ((rd_T104 l0 x8_1).f0))).setCell ⟨gb147, 1, none⟩ (.int .i64 ((rd_T104 l0 x8_1).f1))).setCell ⟨gb147, 2, none⟩ (.int .i64 ((rd_T104 l0 x8_1).f2))).setCell ⟨gb147, 3, none⟩ (.int .u64 ((rd_T104 l0 x8_1).f3))).setCell ⟨gb147, 4, none⟩ (.int .i64 ((rd_T104 l0 x8_1).f4))).setCell ⟨gb147, 5, none⟩ (.slice A146_5 ((rd_T104 l0 x8_1).f5).length c146_5)).setCell ⟨gb147, 6, none⟩ (.slice A146_6 ((rd_T104 l0 x8_1).f6).length c146_6)).setCell ⟨gb147, 7, none⟩ (.slice A146_7 ((rd_T104 l0 x8_1).f7).length c146_7)).setCell ⟨gb147, 8, none⟩ (.bool ((rd_T104 l0 x8_1).f8)))) := ⟨by repeat (first | (with_reducible first | exact HB.out | apply below_alloc | apply pw_below_drewN | apply below_drew1 | refine below_set ?_ GE147.out) | exact HB.out)⟩
              (try clear HO_3)
              (try clear BK147)
              (try clear HB)
              generalize (((((((((w9.setCell ⟨gb147, 0, none⟩ (.int .i64 ((rd_T104 l0 x8_1).f0))).setCell ⟨gb147, 1, none⟩ (.int .i64 ((rd_T104 l0 x8_1).f1))).setCell ⟨gb147, 2, none⟩ (.int .i64 ((rd_T104 l0 x8_1).f2))).setCell ⟨gb147, 3, none⟩ (.int .u64 ((rd_T104 l0 x8_1).f3))).setCell ⟨gb147, 4, none⟩ (.int .i64 ((rd_T104 l0 x8_1).f4))).setCell ⟨gb147, 5, none⟩ (.slice A146_5 ((rd_T104 l0 x8_1).f5).length c146_5)).setCell ⟨gb147, 6, none⟩ (.slice A146_6 ((rd_T104 l0 x8_1).f6).length c146_6)).setCell ⟨gb147, 7, none⟩ (.slice A146_7 ((rd_T104 l0 x8_1).f7).length c146_7)).setCell ⟨gb147, 8, none⟩ (.bool ((rd_T104 l0 x8_1).f8))) = w11 at n0_ n1_ n2_ ⊢
              have HO_3 := n0_
              have BK147 := n1_
              have HB := n2_
              clear n0_ n1_ n2_
              have n0_ := Aside0.mk (Kd.R_drew HO_3.out)
              have n1_ := Aside0.mk (blk_drew BK147.out)
              have n2_ := Aside0.mk (below_drew1 HB.out)
              clear HO_3
              clear BK147
              clear HB
              have HO_3 := n0_
              have BK147 := n1_
              have HB := n2_
              clear n0_ n1_ n2_
              refine start_ (n := 15) (S := fun w' => w'.cell? ⟨gb147, 0, none⟩ = some (.int .i64 ((rd_T104 l0 x8_1).f0)) ∧ w'.cell? ⟨gb147, 1, none⟩ = some (.int .i64 ((rd_T104 l0 x8_1).f1)) ∧ w'.cell? ⟨gb147, 2, none⟩ = some (.int .i64 ((rd_T104 l0 x8_1).f2)) ∧ w'.cell? ⟨gb147, 3, none⟩ = some (.int .u64 ((rd_T104 l0 x8_1).f3)) ∧ w'.cell? ⟨gb147, 4, none⟩ = some (.int .i64 ((rd_T104 l0 x8_1).f4)) ∧ w'.cell? ⟨gb147, 5, none⟩ = some (.slice A146_5 ((rd_T104 l0 x8_1).f5).length c146_5) ∧ w'.cell? ⟨gb147, 6, none⟩ = some (.slice A146_6 ((rd_T104 l0 x8_1).f6).length c146_6) ∧ w'.cell? ⟨gb147, 7, none⟩ = some (.slice A146_7 ((rd_T104 l0 x8_1).f7).length c146_7) ∧ w'.cell? ⟨gb147, 8, none⟩ = some (.bool ((rd_T104 l0 x8_1).f8))) (ds := [10, 12, 14]) #[false, false, false, false, false, false, false, false, false, false, false, false, false, false, false] (by kernel_rfl) rfl rfl ⟨(blk_cell BK147.out 0).trans rfl, (blk_cell BK147.out 1).trans rfl, (blk_cell BK147.out 2).trans rfl, (blk_cell BK147.out 3).trans rfl, (blk_cell BK147.out 4).trans rfl, (blk_cell BK147.out 5).trans rfl, (blk_cell BK147.out 6).trans rfl, (blk_cell BK147.out 7).trans rfl, (blk_cell BK147.out 8).trans rfl⟩ (fun hHeld => ?_); refine with_tabW store_code.tab5 store_code.bits5 (fun HT_ HW_ => ?_)
              generalize w11.drew = w12 at HO_3 BK147 HB hHeld ⊢
              refine pure_ (i := 0) (N := some 12) (v := ?_) (a' := ?_) #[true, false, false, false, false, false, false, false, false, false, false, false, false, false, false] rfl rfl (any_of HT_.out (by kernel_rfl)) (fun _ _ _ h => h) (Or.inl ⟨by rfl, ?_⟩) ?_ ?_
              rotate_left
              · intro w'
                go_simp
                with_reducible rfl
              rotate_left
              · simp only [Act.put, List.setIfInBounds_toArray, List.set_cons_zero, List.set_cons_succ, i64_w, i32_w]
                rfl
              refine pure_ (i := 3) (N := some 15) (v := ?_) (a' := ?_) #[true, false, false, true, false, false, false, false, false, false, false, false, false, false, false] rfl rfl (any_of HT_.out (by kernel_rfl)) (fun _ _ _ h => h) (Or.inl ⟨by rfl, ?_⟩) ?_ ?_
              rotate_left
              · intro w'
                go_simp
                with_reducible rfl
              rotate_left
              · simp only [Act.put, List.setIfInBounds_toArray, List.set_cons_zero, List.set_cons_succ, i64_w, i32_w]
                rfl
              refine pure_ (i := 6) (N := some 18) (v := ?_) (a' := ?_) #[true, false, false, true, false, false, true, false, false, false, false, false, false, false, false] rfl rfl (any_of HT_.out (by kernel_rfl)) (fun _ _ _ h => h) (Or.inl ⟨by rfl, ?_⟩) ?_ ?_
              rotate_left
              · intro w'
                go_simp
                with_reducible rfl
              rotate_left
              · simp only [Act.put, List.setIfInBounds_toArray, List.set_cons_zero, List.set_cons_succ, i64_w, i32_w]
                rfl
              refine take_ (i := 1) (N := some 13) (v := ?_) (a' := ?_) #[true, true, false, true, false, false, true, false, false, false, false, false, false, false, false] rfl rfl (take_ofW HT_.out HW_.out (by kernel_rfl)) (fun _ _ _ h => h) (Or.inl ⟨by rfl, ?_⟩) hHeld ?_ ?_
              rotate_left
              · rintro w' ⟨s0, s1, s2, s3, s4, s5, s6, s7, s8⟩
                go_simp
                with_reducible rfl
              rotate_left
              · simp only [Act.put, List.setIfInBounds_toArray, List.set_cons_zero, List.set_cons_succ, i64_w, i32_w]
                rfl
              refine take_ (i := 4) (N := some 16) (v := ?_) (a' := ?_) #[true, true, false, true, true, false, true, false, false, false, false, false, false, false, false] rfl rfl (take_ofW HT_.out HW_.out (by kernel_rfl)) (fun _ _ _ h => h) (Or.inl ⟨by rfl, ?_⟩) hHeld ?_ ?_
              rotate_left
              · rintro w' ⟨s0, s1, s2, s3, s4, s5, s6, s7, s8⟩
                go_simp
                with_reducible rfl
              rotate_left
              · simp only [Act.put, List.setIfInBounds_toArray, List.set_cons_zero, List.set_cons_succ, i64_w, i32_w]
                rfl
              refine take_ (i := 7) (N := some 19) (v := ?_) (a' := ?_) #[true, true, false, true, true, false, true, true, false, false, false, false, false, false, false] rfl rfl (take_ofW HT_.out HW_.out (by kernel_rfl)) (fun _ _ _ h => h) (Or.inl ⟨by rfl, ?_⟩) hHeld ?_ ?_
              rotate_left
              · rintro w' ⟨s0, s1, s2, s3, s4, s5, s6, s7, s8⟩
                go_simp
                with_reducible rfl
              rotate_left
              · simp only [Act.put, List.setIfInBounds_toArray, List.set_cons_zero, List.set_cons_succ, i64_w, i32_w]
                rfl
              refine one_ (i := 2) (N := some 14) #[true, true, true, true, true, false, true, true, false, false, false, false, false, false, false] rfl rfl (one_of HT_.out (by kernel_rfl)) (by decide) (fun K hK => ?_)
              refine goes_ Try.func25 (by kernel_rfl) rfl #[.slice A146_5 ((rd_T104 l0 x8_1).f5).length c146_5] (by rfl) rfl rfl (by (try simp only [List.map_toArray, List.map_cons, List.map_nil]); first | done | rfl | (simp only [List.length_drop, List.length_take]; rfl)) ?_
              with_reducible refine (slices_Clone_int_int.calls _ _ ((rd_T104 l0 x8_1).f5) t148 _ ?side1 ?side2 A5.out).mono ?_
              (case side1 => repeat (first | exact (Kd.C_below HR146_5.out HB.out) | (with_reducible refine Kd.C_alloc ?_ _) | (with_reducible refine Kd.C_drewN ?_ _) | (with_reducible refine Kd.C_drew ?_)))
              (case side2 => exact HC146_5.out)
              rintro e w13 ⟨v149, rfl, ho0, hb⟩
              refine ⟨_, rfl, ?_⟩
              have n0_ := Aside0.mk (Kd.R_elder' (by (with_reducible repeat (first | apply Kd.R_alloc | apply Kd.R_drewN | apply Kd.R_drew)); exact HO_3.out) (Kd.R_base ho0) hb)
              have n1_ := Aside0.mk (Kd.R_lower ho0 (below_size (by repeat (first | (with_reducible first | exact HB.out | apply below_alloc | apply pw_below_drewN | apply below_drew1 | refine below_set ?_ GE147.out) | exact HB.out))))
              have n2_ := Aside0.mk (blk_below (g := gb147) (o := .cells #[.int .i64 ((rd_T104 l0 x8_1).f0), .int .i64 ((rd_T104 l0 x8_1).f1), .int .i64 ((rd_T104 l0 x8_1).f2), .int .u64 ((rd_T104 l0 x8_1).f3), .int .i64 ((rd_T104 l0 x8_1).f4), .slice A146_5 ((rd_T104 l0 x8_1).f5).length c146_5, .slice A146_6 ((rd_T104 l0 x8_1).f6).length c146_6, .slice A146_7 ((rd_T104 l0 x8_1).f7).length c146_7, .bool ((rd_T104 l0 x8_1).f8)] 104 (0, 0)) (by (with_reducible repeat (first | refine blk_drewN ?_ _ | refine blk_drew ?_ | refine blk_alloc ?_ _)); exact BK147.out) hb)
              have n3_ := Aside0.mk (below_step (by repeat (first | (with_reducible first | exact HB.out | apply below_alloc | apply pw_below_drewN | apply below_drew1 | refine below_set ?_ GE147.out) | exact HB.out)) hb)
              clear HO_3
              clear BK147
              clear HB
              have HO_3 := n0_
              have HO150 := n1_
              have BK147 := n2_
              have HB := n3_
              clear n0_ n1_ n2_ n3_
              (try clear hb)
              (try clear hb2)
              (try clear hk)
              (try clear hi)
              (try clear ho0)
              refine hK.out _ _ ⟨(blk_cell BK147.out 0).trans rfl, (blk_cell BK147.out 1).trans rfl, (blk_cell BK147.out 2).trans rfl, (blk_cell BK147.out 3).trans rfl, (blk_cell BK147.out 4).trans rfl, (blk_cell BK147.out 5).trans rfl, (blk_cell BK147.out 6).trans rfl, (blk_cell BK147.out 7).trans rfl, (blk_cell BK147.out 8).trans rfl⟩ (fun hHeld => ?_)
              clear hK K
              refine norm_ (a' := ?_) ?_ ?_
              rotate_left
              · show Act.put _ (some 14) _ = _
                simp only [Act.put, List.setIfInBounds_toArray, List.set_cons_zero, List.set_cons_succ, i64_w, i32_w]
                rfl
              refine pure_ (i := 9) (N := some 21) (v := ?_) (a' := ?_) #[true, true, true, true, true, false, true, true, false, true, false, false, false, false, false] rfl rfl (any_of HT_.out (by kernel_rfl)) (fun _ _ _ h => h) (Or.inl ⟨by rfl, ?_⟩) ?_ ?_
              rotate_left
              · intro w'
                go_simp
                with_reducible rfl
              rotate_left
              · simp only [Act.put, List.setIfInBounds_toArray, List.set_cons_zero, List.set_cons_succ, i64_w, i32_w]
                rfl
              refine one_ (i := 5) (N := some 17) #[true, true, true, true, true, true, true, true, false, true, false, false, false, false, false] rfl rfl (one_of HT_.out (by kernel_rfl)) (by decide) (fun K hK => ?_)
              refine goes_ Try.func55 (by kernel_rfl) rfl #[.slice A146_6 ((rd_T104 l0 x8_1).f6).length c146_6] (by rfl) rfl rfl (by (try simp only [List.map_toArray, List.map_cons, List.map_nil]); first | done | rfl | (simp only [List.length_drop, List.length_take]; rfl)) ?_
              with_reducible refine (ih k1 (by have := HK1.out; omega) _ _ ((rd_T104 l0 x8_1).f6) t151 _ ?side1 ?side2 A6.out).mono ?_
              (case side1 => repeat (first | exact (Kd.C_below HR146_6.out HB.out) | (with_reducible refine Kd.C_alloc ?_ _) | (with_reducible refine Kd.C_drewN ?_ _) | (with_reducible refine Kd.C_drew ?_)))
              (case side2 => exact HC146_6.out)
              rintro e w14 ⟨v152, rfl, ho0, hb⟩
              refine ⟨_, rfl, ?_⟩
              have n0_ := Aside0.mk (Kd.R_elder' (by (with_reducible repeat (first | apply Kd.R_alloc | apply Kd.R_drewN | apply Kd.R_drew)); exact HO_3.out) (Kd.R_base ho0) hb)
              have n1_ := Aside0.mk (Kd.R_below (by (with_reducible repeat (first | apply Kd.R_alloc | apply Kd.R_drewN | apply Kd.R_drew)); exact HO150.out) hb)
              have n2_ := Aside0.mk (Kd.R_lower (Kd.R_newB (Kd.R_new' (Kd.R_new' ho0 (Kd.R_lt (by (with_reducible repeat (first | apply Kd.R_alloc | apply Kd.R_drewN | apply Kd.R_drew)); exact HO_3.out))) (Kd.R_lt (by (with_reducible repeat (first | apply Kd.R_alloc | apply Kd.R_drewN | apply Kd.R_drew)); exact HO150.out))) (g := gb147) (o := .cells #[.int .i64 ((rd_T104 l0 x8_1).f0), .int .i64 ((rd_T104 l0 x8_1).f1), .int .i64 ((rd_T104 l0 x8_1).f2), .int .u64 ((rd_T104 l0 x8_1).f3), .int .i64 ((rd_T104 l0 x8_1).f4), .slice A146_5 ((rd_T104 l0 x8_1).f5).length c146_5, .slice A146_6 ((rd_T104 l0 x8_1).f6).length c146_6, .slice A146_7 ((rd_T104 l0 x8_1).f7).length c146_7, .bool ((rd_T104 l0 x8_1).f8)] 104 (0, 0)) (by (with_reducible repeat (first | refine blk_drewN ?_ _ | refine blk_drew ?_ | refine blk_alloc ?_ _)); exact BK147.out)) (below_size (by repeat (first | (with_reducible first | exact HB.out | apply below_alloc | apply pw_below_drewN | apply below_drew1 | refine below_set ?_ GE147.out) | exact HB.out))))
              have n3_ := Aside0.mk (blk_below (g := gb147) (o := .cells #[.int .i64 ((rd_T104 l0 x8_1).f0), .int .i64 ((rd_T104 l0 x8_1).f1), .int .i64 ((rd_T104 l0 x8_1).f2), .int .u64 ((rd_T104 l0 x8_1).f3), .int .i64 ((rd_T104 l0 x8_1).f4), .slice A146_5 ((rd_T104 l0 x8_1).f5).length c146_5, .slice A146_6 ((rd_T104 l0 x8_1).f6).length c146_6, .slice A146_7 ((rd_T104 l0 x8_1).f7).length c146_7, .bool ((rd_T104 l0 x8_1).f8)] 104 (0, 0)) (by (with_reducible repeat (first | refine blk_drewN ?_ _ | refine blk_drew ?_ | refine blk_alloc ?_ _)); exact BK147.out) hb)
              have n4_ := Aside0.mk (below_step (by repeat (first | (with_reducible first | exact HB.out | apply below_alloc | apply pw_below_drewN | apply below_drew1 | refine below_set ?_ GE147.out) | exact HB.out)) hb)
              clear HO_3
              clear HO150
              clear BK147
              clear HB
              have HO_3 := n0_
              have HO150 := n1_
              have HO153 := n2_
              have BK147 := n3_
              have HB := n4_
              clear n0_ n1_ n2_ n3_ n4_
              (try clear hb)
              (try clear hb2)
              (try clear hk)
              (try clear hi)
              (try clear ho0)
              refine hK.out _ _ ⟨(blk_cell BK147.out 0).trans rfl, (blk_cell BK147.out 1).trans rfl, (blk_cell BK147.out 2).trans rfl, (blk_cell BK147.out 3).trans rfl, (blk_cell BK147.out 4).trans rfl, (blk_cell BK147.out 5).trans rfl, (blk_cell BK147.out 6).trans rfl, (blk_cell BK147.out 7).trans rfl, (blk_cell BK147.out 8).trans rfl⟩ (fun hHeld => ?_)
              clear hK K
              refine norm_ (a' := ?_) ?_ ?_
              rotate_left
              · show Act.put _ (some 17) _ = _
                simp only [Act.put, List.setIfInBounds_toArray, List.set_cons_zero, List.set_cons_succ, i64_w, i32_w]
                rfl
              refine one_ (i := 8) (N := some 20) #[true, true, true, true, true, true, true, true, true, true, false, false, false, false, false] rfl rfl (one_of HT_.out (by kernel_rfl)) (by decide) (fun K hK => ?_)
              refine goes_ Try.func55 (by kernel_rfl) rfl #[.slice A146_7 ((rd_T104 l0 x8_1).f7).length c146_7] (by rfl) rfl rfl (by (try simp only [List.map_toArray, List.map_cons, List.map_nil]); first | done | rfl | (simp only [List.length_drop, List.length_take]; rfl)) ?_
              with_reducible refine (ih k1 (by have := HK1.out; omega) _ _ ((rd_T104 l0 x8_1).f7) t154 _ ?side1 ?side2 A7.out).mono ?_
              (case side1 => repeat (first | exact (Kd.C_below HR146_7.out HB.out) | (with_reducible refine Kd.C_alloc ?_ _) | (with_reducible refine Kd.C_drewN ?_ _) | (with_reducible refine Kd.C_drew ?_)))
              (case side2 => exact HC146_7.out)
              rintro e w15 ⟨v155, rfl, ho0, hb⟩
              refine ⟨_, rfl, ?_⟩
              have n0_ := Aside0.mk (Kd.R_elder' (by (with_reducible repeat (first | apply Kd.R_alloc | apply Kd.R_drewN | apply Kd.R_drew)); exact HO_3.out) (Kd.R_base ho0) hb)
              have n1_ := Aside0.mk (Kd.R_below (by (with_reducible repeat (first | apply Kd.R_alloc | apply Kd.R_drewN | apply Kd.R_drew)); exact HO150.out) hb)
              have n2_ := Aside0.mk (Kd.R_elder' (by (with_reducible repeat (first | apply Kd.R_alloc | apply Kd.R_drewN | apply Kd.R_drew)); exact HO153.out) (Kd.R_base ho0) hb)
              have n3_ := Aside0.mk (Kd.R_lower (Kd.R_newB (Kd.R_new' (Kd.R_new' (Kd.R_new' ho0 (Kd.R_lt (by (with_reducible repeat (first | apply Kd.R_alloc | apply Kd.R_drewN | apply Kd.R_drew)); exact HO_3.out))) (Kd.R_lt (by (with_reducible repeat (first | apply Kd.R_alloc | apply Kd.R_drewN | apply Kd.R_drew)); exact HO150.out))) (Kd.R_lt (by (with_reducible repeat (first | apply Kd.R_alloc | apply Kd.R_drewN | apply Kd.R_drew)); exact HO153.out))) (g := gb147) (o := .cells #[.int .i64 ((rd_T104 l0 x8_1).f0), .int .i64 ((rd_T104 l0 x8_1).f1), .int .i64 ((rd_T104 l0 x8_1).f2), .int .u64 ((rd_T104 l0 x8_1).f3), .int .i64 ((rd_T104 l0 x8_1).f4), .slice A146_5 ((rd_T104 l0 x8_1).f5).length c146_5, .slice A146_6 ((rd_T104 l0 x8_1).f6).length c146_6, .slice A146_7 ((rd_T104 l0 x8_1).f7).length c146_7, .bool ((rd_T104 l0 x8_1).f8)] 104 (0, 0)) (by (with_reducible repeat (first | refine blk_drewN ?_ _ | refine blk_drew ?_ | refine blk_alloc ?_ _)); exact BK147.out)) (below_size (by repeat (first | (with_reducible first | exact HB.out | apply below_alloc | apply pw_below_drewN | apply below_drew1 | refine below_set ?_ GE147.out) | exact HB.out))))
              have n4_ := Aside0.mk (blk_below (g := gb147) (o := .cells #[.int .i64 ((rd_T104 l0 x8_1).f0), .int .i64 ((rd_T104 l0 x8_1).f1), .int .i64 ((rd_T104 l0 x8_1).f2), .int .u64 ((rd_T104 l0 x8_1).f3), .int .i64 ((rd_T104 l0 x8_1).f4), .slice A146_5 ((rd_T104 l0 x8_1).f5).length c146_5, .slice A146_6 ((rd_T104 l0 x8_1).f6).length c146_6, .slice A146_7 ((rd_T104 l0 x8_1).f7).length c146_7, .bool ((rd_T104 l0 x8_1).f8)] 104 (0, 0)) (by (with_reducible repeat (first | refine blk_drewN ?_ _ | refine blk_drew ?_ | refine blk_alloc ?_ _)); exact BK147.out) hb)
              have n5_ := Aside0.mk (below_step (by repeat (first | (with_reducible first | exact HB.out | apply below_alloc | apply pw_below_drewN | apply below_drew1 | refine below_set ?_ GE147.out) | exact HB.out)) hb)
              clear HO_3
              clear HO150
              clear HO153
              clear BK147
              clear HB
              have HO_3 := n0_
              have HO150 := n1_
              have HO153 := n2_
              have HO156 := n3_
              have BK147 := n4_
              have HB := n5_
              clear n0_ n1_ n2_ n3_ n4_ n5_
              (try clear hb)
              (try clear hb2)
              (try clear hk)
              (try clear hi)
              (try clear ho0)
              obtain ⟨Ao16, co16, eo16⟩ := Kd.R_slice HO150.out
              (first | subst eo16 | (injection eo16 with f1_ f2_ f3_; have f4_ := f1_.symm; have f5_ := f3_.symm; clear f1_ f2_ f3_; subst f4_; subst f5_))
              obtain ⟨Ao18, co18, eo18⟩ := Kd.R_slice HO153.out
              (first | subst eo18 | (injection eo18 with f1_ f2_ f3_; have f4_ := f1_.symm; have f5_ := f3_.symm; clear f1_ f2_ f3_; subst f4_; subst f5_))
              obtain ⟨Ao20, co20, eo20⟩ := Kd.R_slice HO156.out
              (first | subst eo20 | (injection eo20 with f1_ f2_ f3_; have f4_ := f1_.symm; have f5_ := f3_.symm; clear f1_ f2_ f3_; subst f4_; subst f5_))
              refine hK.out _ _ ⟨(blk_cell BK147.out 0).trans rfl, (blk_cell BK147.out 1).trans rfl, (blk_cell BK147.out 2).trans rfl, (blk_cell BK147.out 3).trans rfl, (blk_cell BK147.out 4).trans rfl, (blk_cell BK147.out 5).trans rfl, (blk_cell BK147.out 6).trans rfl, (blk_cell BK147.out 7).trans rfl, (blk_cell BK147.out 8).trans rfl⟩ (fun hHeld => ?_)
              clear hK K
              refine norm_ (a' := ?_) ?_ ?_
              rotate_left
              · show Act.put _ (some 20) _ = _
                simp only [Act.put, List.setIfInBounds_toArray, List.set_cons_zero, List.set_cons_succ, i64_w, i32_w]
                rfl
              refine last_ (i := 10) (N := none) #[true, true, true, true, true, true, true, true, true, true, true, false, false, false, false] rfl rfl (one_of HT_.out (by kernel_rfl)) (by decide) (fun K hK => ?_)
              have hs17 : w15.cell? ⟨gb147, 5, none⟩ = some (.slice A146_5 ((rd_T104 l0 x8_1).f5).length c146_5) := (blk_cell BK147.out 5).trans rfl
              have hfs17 := blk_frozen BK147.out 5
              refine skip_ (w1 := ?_) (by rfl) rfl ?_ ?_
              rotate_left
              · go_simp
                rfl
              refine hK.out _ _ ?_
              clear hK K
              refine pure_ (i := 11) (N := some 22) (v := ?_) (a' := ?_) #[true, true, true, true, true, true, true, true, true, true, true, true, false, false, false] rfl rfl (any_of HT_.out (by kernel_rfl)) (fun _ _ _ h => h) (Or.inl ⟨by rfl, ?_⟩) ?_ ?_
              rotate_left
              · intro w'
                go_simp
                with_reducible rfl
              rotate_left
              · simp only [Act.put, List.setIfInBounds_toArray, List.set_cons_zero, List.set_cons_succ, i64_w, i32_w]
                rfl
              refine last_ (i := 12) (N := none) #[true, true, true, true, true, true, true, true, true, true, true, true, true, false, false] rfl rfl (one_of HT_.out (by kernel_rfl)) (by decide) (fun K hK => ?_)
              have hs19 : w15.cell? ⟨gb147, 6, none⟩ = some (.slice A146_6 ((rd_T104 l0 x8_1).f6).length c146_6) := (blk_cell BK147.out 6).trans rfl
              have hfs19 := blk_frozen BK147.out 6
              refine skip_ (w1 := ?_) (by rfl) rfl ?_ ?_
              rotate_left
              · go_simp
                rfl
              refine hK.out _ _ ?_
              clear hK K
              refine pure_ (i := 13) (N := some 23) (v := ?_) (a' := ?_) #[true, true, true, true, true, true, true, true, true, true, true, true, true, true, false] rfl rfl (any_of HT_.out (by kernel_rfl)) (fun _ _ _ h => h) (Or.inl ⟨by rfl, ?_⟩) ?_ ?_
              rotate_left
              · intro w'
                go_simp
                with_reducible rfl
              rotate_left
              · simp only [Act.put, List.setIfInBounds_toArray, List.set_cons_zero, List.set_cons_succ, i64_w, i32_w]
                rfl
              refine last_ (i := 14) (N := none) #[true, true, true, true, true, true, true, true, true, true, true, true, true, true, true] rfl rfl (one_of HT_.out (by kernel_rfl)) (by decide) (fun K hK => ?_)
              have hs21 : w15.cell? ⟨gb147, 7, none⟩ = some (.slice A146_7 ((rd_T104 l0 x8_1).f7).length c146_7) := (blk_cell BK147.out 7).trans rfl
              have hfs21 := blk_frozen BK147.out 7
              refine skip_ (w1 := ?_) (by rfl) rfl ?_ ?_
              rotate_left
              · go_simp
                rfl
              refine hK.out _ _ ?_
              clear hK K
              refine done_ (done_of HT_.out (by kernel_rfl)) ?_
              have n0_ : Aside0 (Kd.R k104 104 (((w15.setCell ⟨gb147, 5, none⟩ (.slice Ao16 t148.length co16)).setCell ⟨gb147, 6, none⟩ (.slice Ao18 t151.length co18)).setCell ⟨gb147, 7, none⟩ (.slice Ao20 t154.length co20)) w.heap.size (fun k_ => some k_ ≠ (.slice Ao16 t148.length co16 : Value).ownBlock ∧ some k_ ≠ (.slice Ao18 t151.length co18 : Value).ownBlock ∧ some k_ ≠ (.slice Ao20 t154.length co20 : Value).ownBlock ∧ k_ ≠ gb147) u3 x3_1) := ⟨by (with_reducible repeat (first | apply Kd.R_alloc | apply Kd.R_drewN | apply Kd.R_drew)); exact Kd.R_mono (Kd.R_far (p := ⟨gb147, 7, none⟩) (Kd.R_far (p := ⟨gb147, 6, none⟩) (Kd.R_far (p := ⟨gb147, 5, none⟩) (Kd.R_mono HO_3.out (fun k_ hk => (⟨hk, hk.1.1.1⟩ : _ ∧ k_ ≠ gb147))) (fun _ hk => hk.2) (.slice Ao16 t148.length co16)) (fun _ hk => hk.2) (.slice Ao18 t151.length co18)) (fun _ hk => hk.2) (.slice Ao20 t154.length co20)) (fun _ hk => ⟨hk.1.1.1.2, ⟨hk.1.1.2, ⟨hk.1.2, hk.1.1.1.1⟩⟩⟩)⟩
              have n1_ : Aside0 (Kd.R (Kd.int .i64) 3 (((w15.setCell ⟨gb147, 5, none⟩ (.slice Ao16 t148.length co16)).setCell ⟨gb147, 6, none⟩ (.slice Ao18 t151.length co18)).setCell ⟨gb147, 7, none⟩ (.slice Ao20 t154.length co20)) w.heap.size (fun _ => True) (.slice Ao16 t148.length co16) t148) := ⟨by (with_reducible repeat (first | apply Kd.R_alloc | apply Kd.R_drewN | apply Kd.R_drew)); exact Kd.R_mono (Kd.R_far (p := ⟨gb147, 7, none⟩) (Kd.R_far (p := ⟨gb147, 6, none⟩) (Kd.R_far (p := ⟨gb147, 5, none⟩) (Kd.R_types HO150.out BK147.out (by decide)) (fun _ hk => hk.2) (.slice Ao16 t148.length co16)) (fun _ hk => hk.2) (.slice Ao18 t151.length co18)) (fun _ hk => hk.2) (.slice Ao20 t154.length co20)) (fun _ hk => trivial)⟩
              have n2_ : Aside0 (Kd.R k104 104 (((w15.setCell ⟨gb147, 5, none⟩ (.slice Ao16 t148.length co16)).setCell ⟨gb147, 6, none⟩ (.slice Ao18 t151.length co18)).setCell ⟨gb147, 7, none⟩ (.slice Ao20 t154.length co20)) w.heap.size (fun k_ => some k_ ≠ (u3 : Value).ownBlock ∧ some k_ ≠ (.slice Ao16 t148.length co16 : Value).ownBlock ∧ some k_ ≠ (.slice Ao20 t154.length co20 : Value).ownBlock ∧ k_ ≠ gb147) (.slice Ao18 t151.length co18) t151) := ⟨by (with_reducible repeat (first | apply Kd.R_alloc | apply Kd.R_drewN | apply Kd.R_drew)); exact Kd.R_mono (Kd.R_far (p := ⟨gb147, 7, none⟩) (Kd.R_far (p := ⟨gb147, 6, none⟩) (Kd.R_far (p := ⟨gb147, 5, none⟩) (Kd.R_mono HO153.out (fun k_ hk => (⟨hk, hk.1.2⟩ : _ ∧ k_ ≠ gb147))) (fun _ hk => hk.2) (.slice Ao16 t148.length co16)) (fun _ hk => hk.2) (.slice Ao18 t151.length co18)) (fun _ hk => hk.2) (.slice Ao20 t154.length co20)) (fun _ hk => ⟨hk.1.1.1.1.2, ⟨hk.1.1.1.2, ⟨hk.1.2, hk.1.1.2⟩⟩⟩)⟩
              have n3_ : Aside0 (Kd.R k104 104 (((w15.setCell ⟨gb147, 5, none⟩ (.slice Ao16 t148.length co16)).setCell ⟨gb147, 6, none⟩ (.slice Ao18 t151.length co18)).setCell ⟨gb147, 7, none⟩ (.slice Ao20 t154.length co20)) w.heap.size (fun k_ => some k_ ≠ (u3 : Value).ownBlock ∧ some k_ ≠ (.slice Ao16 t148.length co16 : Value).ownBlock ∧ some k_ ≠ (.slice Ao18 t151.length co18 : Value).ownBlock ∧ k_ ≠ gb147) (.slice Ao20 t154.length co20) t154) := ⟨by (with_reducible repeat (first | apply Kd.R_alloc | apply Kd.R_drewN | apply Kd.R_drew)); exact Kd.R_mono (Kd.R_far (p := ⟨gb147, 7, none⟩) (Kd.R_far (p := ⟨gb147, 6, none⟩) (Kd.R_far (p := ⟨gb147, 5, none⟩) (Kd.R_mono HO156.out (fun k_ hk => (⟨hk, hk.2⟩ : _ ∧ k_ ≠ gb147))) (fun _ hk => hk.2) (.slice Ao16 t148.length co16)) (fun _ hk => hk.2) (.slice Ao18 t151.length co18)) (fun _ hk => hk.2) (.slice Ao20 t154.length co20)) (fun _ hk => ⟨hk.1.1.1.1.2, ⟨hk.1.1.1.2, ⟨hk.1.1.2, hk.1.2⟩⟩⟩)⟩
              have n4_ : Aside0 ((((w15.setCell ⟨gb147, 5, none⟩ (.slice Ao16 t148.length co16)).setCell ⟨gb147, 6, none⟩ (.slice Ao18 t151.length co18)).setCell ⟨gb147, 7, none⟩ (.slice Ao20 t154.length co20)).heap[gb147]? = some (.cells #[.int .i64 ((rd_T104 l0 x8_1).f0), .int .i64 ((rd_T104 l0 x8_1).f1), .int .i64 ((rd_T104 l0 x8_1).f2), .int .u64 ((rd_T104 l0 x8_1).f3), .int .i64 ((rd_T104 l0 x8_1).f4), .slice Ao16 t148.length co16, .slice Ao18 t151.length co18, .slice Ao20 t154.length co20, .bool ((rd_T104 l0 x8_1).f8)] 104 (0, 0))) := ⟨by (with_reducible repeat (first | refine blk_drewN ?_ _ | refine blk_drew ?_ | refine blk_alloc ?_ _)); refine blk_put (cs := #[.int .i64 ((rd_T104 l0 x8_1).f0), .int .i64 ((rd_T104 l0 x8_1).f1), .int .i64 ((rd_T104 l0 x8_1).f2), .int .u64 ((rd_T104 l0 x8_1).f3), .int .i64 ((rd_T104 l0 x8_1).f4), .slice Ao16 t148.length co16, .slice Ao18 t151.length co18, .slice A146_7 ((rd_T104 l0 x8_1).f7).length c146_7, .bool ((rd_T104 l0 x8_1).f8)]) ?_ 7 _ rfl; (with_reducible repeat (first | refine blk_drewN ?_ _ | refine blk_drew ?_ | refine blk_alloc ?_ _)); refine blk_put (cs := #[.int .i64 ((rd_T104 l0 x8_1).f0), .int .i64 ((rd_T104 l0 x8_1).f1), .int .i64 ((rd_T104 l0 x8_1).f2), .int .u64 ((rd_T104 l0 x8_1).f3), .int .i64 ((rd_T104 l0 x8_1).f4), .slice Ao16 t148.length co16, .slice A146_6 ((rd_T104 l0 x8_1).f6).length c146_6, .slice A146_7 ((rd_T104 l0 x8_1).f7).length c146_7, .bool ((rd_T104 l0 x8_1).f8)]) ?_ 6 _ rfl; (with_reducible repeat (first | refine blk_drewN ?_ _ | refine blk_drew ?_ | refine blk_alloc ?_ _)); refine blk_put (cs := #[.int .i64 ((rd_T104 l0 x8_1).f0), .int .i64 ((rd_T104 l0 x8_1).f1), .int .i64 ((rd_T104 l0 x8_1).f2), .int .u64 ((rd_T104 l0 x8_1).f3), .int .i64 ((rd_T104 l0 x8_1).f4), .slice A146_5 ((rd_T104 l0 x8_1).f5).length c146_5, .slice A146_6 ((rd_T104 l0 x8_1).f6).length c146_6, .slice A146_7 ((rd_T104 l0 x8_1).f7).length c146_7, .bool ((rd_T104 l0 x8_1).f8)]) ?_ 5 _ rfl; (with_reducible repeat (first | refine blk_drewN ?_ _ | refine blk_drew ?_ | refine blk_alloc ?_ _)); exact BK147.out⟩
              have n5_ : Aside0 (Below w.heap.size w (((w15.setCell ⟨gb147, 5, none⟩ (.slice Ao16 t148.length co16)).setCell ⟨gb147, 6, none⟩ (.slice Ao18 t151.length co18)).setCell ⟨gb147, 7, none⟩ (.slice Ao20 t154.length co20))) := ⟨by repeat (first | (with_reducible first | exact HB.out | apply below_alloc | apply pw_below_drewN | apply below_drew1 | refine below_set ?_ GE147.out) | exact HB.out)⟩
              (try clear HO_3)
              (try clear HO150)
              (try clear HO153)
              (try clear HO156)
              (try clear BK147)
              (try clear HB)
              generalize (((w15.setCell ⟨gb147, 5, none⟩ (.slice Ao16 t148.length co16)).setCell ⟨gb147, 6, none⟩ (.slice Ao18 t151.length co18)).setCell ⟨gb147, 7, none⟩ (.slice Ao20 t154.length co20)) = w22 at n0_ n1_ n2_ n3_ n4_ n5_ ⊢
              have HO_3 := n0_
              have HO150 := n1_
              have HO153 := n2_
              have HO156 := n3_
              have BK147 := n4_
              have HB := n5_
              clear n0_ n1_ n2_ n3_ n4_ n5_
              have hcz23_0 : w22.cell? ⟨gb147, 0, none⟩ = some (.int .i64 ((rd_T104 l0 x8_1).f0)) := (blk_cell BK147.out 0).trans rfl
              have hcz23_1 : w22.cell? ⟨gb147, 1, none⟩ = some (.int .i64 ((rd_T104 l0 x8_1).f1)) := (blk_cell BK147.out 1).trans rfl
              have hcz23_2 : w22.cell? ⟨gb147, 2, none⟩ = some (.int .i64 ((rd_T104 l0 x8_1).f2)) := (blk_cell BK147.out 2).trans rfl
              have hcz23_3 : w22.cell? ⟨gb147, 3, none⟩ = some (.int .u64 ((rd_T104 l0 x8_1).f3)) := (blk_cell BK147.out 3).trans rfl
              have hcz23_4 : w22.cell? ⟨gb147, 4, none⟩ = some (.int .i64 ((rd_T104 l0 x8_1).f4)) := (blk_cell BK147.out 4).trans rfl
              have hcz23_5 : w22.cell? ⟨gb147, 5, none⟩ = some (.slice Ao16 t148.length co16) := (blk_cell BK147.out 5).trans rfl
              have hcz23_6 : w22.cell? ⟨gb147, 6, none⟩ = some (.slice Ao18 t151.length co18) := (blk_cell BK147.out 6).trans rfl
              have hcz23_7 : w22.cell? ⟨gb147, 7, none⟩ = some (.slice Ao20 t154.length co20) := (blk_cell BK147.out 7).trans rfl
              have hcz23_8 : w22.cell? ⟨gb147, 8, none⟩ = some (.bool ((rd_T104 l0 x8_1).f8)) := (blk_cell BK147.out 8).trans rfl
              have hfz23_0 := blk_frozen BK147.out 0
              have hfz23_1 := blk_frozen BK147.out 1
              have hfz23_2 := blk_frozen BK147.out 2
              have hfz23_3 := blk_frozen BK147.out 3
              have hfz23_4 := blk_frozen BK147.out 4
              have hfz23_5 := blk_frozen BK147.out 5
              have hfz23_6 := blk_frozen BK147.out 6
              have hfz23_7 := blk_frozen BK147.out 7
              have hfz23_8 := blk_frozen BK147.out 8
              try go_wp2_with (first | ((with_reducible refine gate_builtin (b := .append) (xs := #[.tmp 24, .tmp 26]) rfl ?_); at_builtin; refine Kd.R_append k104 (w0 := w) w.heap.size rfl (.tmp 24) (.tmp 26) 99 104 (.agg #[(.int .i64 0), (.int .i64 0), (.int .i64 0), (.int .u64 0), (.int .i64 0), (.slice none 0 0), (.slice none 0 0), (.slice none 0 0), (.bool false)]) 120 rfl Try.underlying99 info104 rfl (by decide) (by omega) u3 x3_1 (⟨(rd_T104 l0 x8_1).f0, (rd_T104 l0 x8_1).f1, (rd_T104 l0 x8_1).f2, (rd_T104 l0 x8_1).f3, (rd_T104 l0 x8_1).f4, t148, t151, t154, (rd_T104 l0 x8_1).f8⟩ : S104) [.int .i64 ((rd_T104 l0 x8_1).f0), .int .i64 ((rd_T104 l0 x8_1).f1), .int .i64 ((rd_T104 l0 x8_1).f2), .int .u64 ((rd_T104 l0 x8_1).f3), .int .i64 ((rd_T104 l0 x8_1).f4), .slice Ao16 t148.length co16, .slice Ao18 t151.length co18, .slice Ao20 t154.length co20, .bool ((rd_T104 l0 x8_1).f8)] (fun k_ => k_ ≠ gb147) (fun k_ => ((fun k_ => k_ ≠ gb147)) k_ ∧ some k_ ≠ (u3 : Value).ownBlock) rfl rfl ?aP (fun _ hk => hk) ?aF ?aO ?aB ?aS ?aL ?_; (case aP => exact k104_mkM _ _ _ (⟨(rd_T104 l0 x8_1).f0, (rd_T104 l0 x8_1).f1, (rd_T104 l0 x8_1).f2, (rd_T104 l0 x8_1).f3, (rd_T104 l0 x8_1).f4, t148, t151, t154, (rd_T104 l0 x8_1).f8⟩ : S104) (Kd.R_mono (Kd.R_types (Kd.R_apart' (HO150.out) (Kd.R_typed HO_3.out) (by decide)) BK147.out (by decide)) (fun k_ hk => ⟨hk.2, hk.1.2⟩)) (Kd.R_mono (HO153.out) (fun k_ hk => ⟨hk.2.2.2, hk.1⟩)) (Kd.R_mono (HO156.out) (fun k_ hk => ⟨hk.2.2.2, hk.1⟩))); (case aB => exact (by repeat (first | (with_reducible first | exact HB.out | apply below_alloc | apply pw_below_drewN | apply below_drew1 | refine below_set ?_ GE147.out) | exact HB.out))); (case aF => exact (fun k_ hk => Kd.freshB (g := gb147) (o := .cells #[.int .i64 ((rd_T104 l0 x8_1).f0), .int .i64 ((rd_T104 l0 x8_1).f1), .int .i64 ((rd_T104 l0 x8_1).f2), .int .u64 ((rd_T104 l0 x8_1).f3), .int .i64 ((rd_T104 l0 x8_1).f4), .slice Ao16 t148.length co16, .slice Ao18 t151.length co18, .slice Ao20 t154.length co20, .bool ((rd_T104 l0 x8_1).f8)] 104 (0, 0)) (by (with_reducible repeat (first | refine blk_drewN ?_ _ | refine blk_drew ?_ | refine blk_alloc ?_ _)); exact BK147.out) k_ hk)); (case aO => exact (by (with_reducible repeat (first | apply Kd.R_alloc | apply Kd.R_drewN | apply Kd.R_drew)); exact Kd.R_mono HO_3.out (fun _ hk => hk.2.2.2))); (case aS => exact (below_size (by repeat (first | (with_reducible first | exact HB.out | apply below_alloc | apply pw_below_drewN | apply below_drew1 | refine below_set ?_ GE147.out) | exact HB.out)))); (case aL => have := LMc8.out; omega); intro v158 w24 ho hb hg hat; rw [← Ny157.out] at ho; have n0_ := Aside0.mk (blk_grown (g := gb147) (o := .cells #[.int .i64 ((rd_T104 l0 x8_1).f0), .int .i64 ((rd_T104 l0 x8_1).f1), .int .i64 ((rd_T104 l0 x8_1).f2), .int .u64 ((rd_T104 l0 x8_1).f3), .int .i64 ((rd_T104 l0 x8_1).f4), .slice Ao16 t148.length co16, .slice Ao18 t151.length co18, .slice Ao20 t154.length co20, .bool ((rd_T104 l0 x8_1).f8)] 104 (0, 0)) (by (with_reducible repeat (first | refine blk_drewN ?_ _ | refine blk_drew ?_ | refine blk_alloc ?_ _)); exact BK147.out) hg (Kd.R_away HO_3.out (fun _ hk => hk.2.2.2))); have n1_ := Aside0.mk (hb); have n2_ := Aside0.mk (ho); clear BK147; clear HB; clear HO_3; clear HO150; clear HO153; clear HO156; have BK147 := n0_; have HB := n1_; have HO159 := n2_; clear n0_ n1_ n2_; clear ho hb hg hat))
              go_roundg k1
              case measure => have := HK1.out; omega
              case rel => exact ⟨(y157), (wrap64 (x8_1 + 1)), (by first | rfl | (simp; done) | (simp [*]; done)), H', ⟨by have := HK1.out; omega⟩, ⟨by (with_reducible repeat (first | apply Kd.R_alloc | apply Kd.R_drewN | apply Kd.R_drew)); exact Kd.R_mono HO159.out (fun _ hk => trivial)⟩, ⟨by repeat (first | (with_reducible first | exact HB.out | apply below_alloc | apply pw_below_drewN | apply below_drew1 | refine below_set ?_ GE147.out) | exact HB.out)⟩⟩
            · rw [if_neg c8] at H
              exact absurd H (by simp)
          · rw [if_neg c4] at H
            exact absurd H (by simp)
        · rw [if_neg c3] at H
          exact absurd H (by simp)
      · rw [if_neg c2] at H
        have c2b0 : decide (x8_1 < (l0.length : Int)) = false := decide_eq_false c2
        clear c2
        obtain rfl := Option.some.inj H
        go_wp2
        go_ret
        exact ⟨_, by first | rfl | (simp [errW_none, errW_some] <;> rfl) | (simp [*, errW_none, errW_some] <;> rfl), by (with_reducible repeat (first | apply Kd.R_alloc | apply Kd.R_drewN | apply Kd.R_drew)); exact HO_3.out, by repeat (first | (with_reducible first | exact HB.out | apply below_alloc | apply pw_below_drewN | apply below_drew1) | exact HB.out)⟩
end Go.Proofs.Ytbelijoggbblgaa.RStoreExports
