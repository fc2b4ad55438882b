-- Made by the program mksj.py out of printed texts (wip/patchprint.py)
import Derived.Test.YtibeoejnfpbcfaaDoorRSectSplitsx2
import Derived.Test.YtibeoejnfpbcfaaDoorRSectSplitsx3
import Derived.Test.YtibeoejnfpbcfaaDoorRSectSplitsx4
namespace Go.Proofs.YtibeoejnfpbcfaaDoor.RSectSplits
open Go.RowKit Go.Proofs.YtibeoejnfpbcfaaDoorW.PrintWords Go.Proofs.YtibeoejnfpbcfaaDoorW.PrintLast Go.Proofs.YtibeoejnfpbcfaaDoorW.PrintMore
attribute [local go_sem] max2_int min2_int max_two min_two max_three min_three max_four min_four   -- for this text's walks alone
set_option linter.unusedVariables false
set_option linter.unusedSimpArgs false
set_option linter.unnecessarySimpa false
attribute [local simp] shl_zero
/-! ### grommetref01_Put: function 24 -/
mutual
def grommetref01_Put.l0 : Nat → Int → Bool → Int → Option (List Int)
  | 0, _, _, _ => none
  | k + 1, x0, x1, x5 => if x5 ≤ 10 then (grommetref01_Put.l1 k x0 x1 x5 ([] : List Int) x0 0) else (some ([] : List Int))
def grommetref01_Put.l1 : Nat → Int → Bool → Int → List Int → Int → Int → Option (List Int)
  | 0, _, _, _, _, _, _ => none
  | k + 1, x0, x1, x5, x6, x7, x8 => if x8 < x5 then (if x1 = true then (grommetref01_Put.j2 k x0 x1 x5 x6 (IntKind.u64.wrap (Int.tdiv x7 128)) x8 (Int.tmod x7 128) (decide (x0 ≥ 9223372036854775808))) else (grommetref01_Put.j2 k x0 x1 x5 x6 (IntKind.u64.wrap (Int.tdiv x7 128)) x8 (Int.tmod x7 128) false)) else ((grommetref01_Read.f k x6 0 64 x1).bind fun bt174 => (if bt174.2.2 = true then (if bt174.1 = x0 then (some x6) else (grommetref01_Put.l0 k x0 x1 (wrap64 (x5 + 1)))) else (grommetref01_Put.l0 k x0 x1 (wrap64 (x5 + 1)))))
def grommetref01_Put.j2 : Nat → Int → Bool → Int → List Int → Int → Int → Int → Bool → Option (List Int)
  | 0, _, _, _, _, _, _, _, _ => none
  | k + 1, x0, x1, x5, x6, x7, x8, x9, x31 => if x31 = true then (if x8 < (wrap64 (x5 - 1)) then (if x6.length < 140737488355328 then (grommetref01_Put.l1 k x0 x1 x5 (x6 ++ [(IntKind.u64.wrap (x9 + 128)) % 256]) (IntKind.u64.wrap (x7 + 18302628885633695744)) (wrap64 (x8 + 1))) else (none)) else (if x6.length < 140737488355328 then (grommetref01_Put.l1 k x0 x1 x5 (x6 ++ [(x9) % 256]) (IntKind.u64.wrap (x7 + 18302628885633695744)) (wrap64 (x8 + 1))) else (none))) else (if x8 < (wrap64 (x5 - 1)) then (if x6.length < 140737488355328 then (grommetref01_Put.l1 k x0 x1 x5 (x6 ++ [(IntKind.u64.wrap (x9 + 128)) % 256]) x7 (wrap64 (x8 + 1))) else (none)) else (if x6.length < 140737488355328 then (grommetref01_Put.l1 k x0 x1 x5 (x6 ++ [(x9) % 256]) x7 (wrap64 (x8 + 1))) else (none)))
end
def grommetref01_Put.f (k : Nat) (a0 : Int) (a1 : Bool) : Option (List Int) := grommetref01_Put.l0 k a0 a1 1
theorem grommetref01_Put.mono_l : ∀ k, (∀ y0 y1 y2, LeO (grommetref01_Put.l0 k y0 y1 y2) (grommetref01_Put.l0 (k + 1) y0 y1 y2)) ∧ (∀ y0 y1 y2 y3 y4 y5, LeO (grommetref01_Put.l1 k y0 y1 y2 y3 y4 y5) (grommetref01_Put.l1 (k + 1) y0 y1 y2 y3 y4 y5)) ∧ (∀ y0 y1 y2 y3 y4 y5 y6 y7, LeO (grommetref01_Put.j2 k y0 y1 y2 y3 y4 y5 y6 y7) (grommetref01_Put.j2 (k + 1) y0 y1 y2 y3 y4 y5 y6 y7))
  | 0 => ⟨fun _ _ _ r h => by simp [grommetref01_Put.l0] at h, fun _ _ _ _ _ _ r h => by simp [grommetref01_Put.l1] at h, fun _ _ _ _ _ _ _ _ r h => by simp [grommetref01_Put.j2] at h⟩
  | k + 1 => by
    obtain ⟨ih0, ih1, ih2⟩ := grommetref01_Put.mono_l k
    refine ⟨?_, ?_, ?_⟩
    · intro y0 y1 y2
      unfold grommetref01_Put.l0
      repeat' first
      | (with_reducible exact ih0 _ _ _)
      | (with_reducible exact ih1 _ _ _ _ _ _)
      | (with_reducible exact ih2 _ _ _ _ _ _ _ _)
      | (with_reducible exact grommetref01_Read.mono _ _ _ _ _)
      | (with_reducible exact LeO.refl _)
      | (with_reducible exact LeO.none _)
      | (with_reducible refine LeO.ite ?_ ?_)
      | (with_reducible refine LeO.bind ?_ (fun _ => ?_))
      | exact ih0 _ _ _
      | exact ih1 _ _ _ _ _ _
      | exact ih2 _ _ _ _ _ _ _ _
      | exact grommetref01_Read.mono _ _ _ _ _
      | exact LeO.none _
      | refine LeO.ite ?_ ?_
      | refine LeO.bind ?_ (fun _ => ?_)
    · intro y0 y1 y2 y3 y4 y5
      unfold grommetref01_Put.l1
      repeat' first
      | (with_reducible exact ih0 _ _ _)
      | (with_reducible exact ih1 _ _ _ _ _ _)
      | (with_reducible exact ih2 _ _ _ _ _ _ _ _)
      | (with_reducible exact grommetref01_Read.mono _ _ _ _ _)
      | (with_reducible exact LeO.refl _)
      | (with_reducible exact LeO.none _)
      | (with_reducible refine LeO.ite ?_ ?_)
      | (with_reducible refine LeO.bind ?_ (fun _ => ?_))
      | exact ih0 _ _ _
      | exact ih1 _ _ _ _ _ _
      | exact ih2 _ _ _ _ _ _ _ _
      | exact grommetref01_Read.mono _ _ _ _ _
      | exact LeO.none _
      | refine LeO.ite ?_ ?_
      | refine LeO.bind ?_ (fun _ => ?_)
    · intro y0 y1 y2 y3 y4 y5 y6 y7
      unfold grommetref01_Put.j2
      repeat' first
      | (with_reducible exact ih0 _ _ _)
      | (with_reducible exact ih1 _ _ _ _ _ _)
      | (with_reducible exact ih2 _ _ _ _ _ _ _ _)
      | (with_reducible exact grommetref01_Read.mono _ _ _ _ _)
      | (with_reducible exact LeO.refl _)
      | (with_reducible exact LeO.none _)
      | (with_reducible refine LeO.ite ?_ ?_)
      | (with_reducible refine LeO.bind ?_ (fun _ => ?_))
      | exact ih0 _ _ _
      | exact ih1 _ _ _ _ _ _
      | exact ih2 _ _ _ _ _ _ _ _
      | exact grommetref01_Read.mono _ _ _ _ _
      | exact LeO.none _
      | refine LeO.ite ?_ ?_
      | refine LeO.bind ?_ (fun _ => ?_)
theorem grommetref01_Put.mono : ∀ a0 a1 k, LeO (grommetref01_Put.f k a0 a1) (grommetref01_Put.f (k + 1) a0 a1) := by
  intro a0 a1 k
  obtain ⟨ih0, ih1, ih2⟩ := grommetref01_Put.mono_l k
  unfold grommetref01_Put.f
  repeat' first
      | (with_reducible exact ih0 _ _ _)
      | (with_reducible exact ih1 _ _ _ _ _ _)
      | (with_reducible exact ih2 _ _ _ _ _ _ _ _)
      | (with_reducible exact grommetref01_Read.mono _ _ _ _ _)
      | (with_reducible exact LeO.refl _)
      | (with_reducible exact LeO.none _)
      | (with_reducible refine LeO.ite ?_ ?_)
      | (with_reducible refine LeO.bind ?_ (fun _ => ?_))
      | exact ih0 _ _ _
      | exact ih1 _ _ _ _ _ _
      | exact ih2 _ _ _ _ _ _ _ _
      | exact grommetref01_Read.mono _ _ _ _ _
      | exact LeO.none _
      | refine LeO.ite ?_ ?_
      | refine LeO.bind ?_ (fun _ => ?_)
set_option maxHeartbeats 8000000 in
set_option maxRecDepth 100000 in
theorem grommetref01_Put.calls (k : Nat) (a0 : Int) (a1 : Bool) (r : List Int) (w : World) (h : grommetref01_Put.f k a0 a1 = some r) :
    Calls Tryd.prog 24 #[.int .u64 a0, .bool a1] w fun e w' => ∃ v0_ : Value, e = .returned (v0_) ∧ Kd.R (Kd.int .u8) 5 w' w.heap.size (fun _ => True) v0_ r ∧ Below w.heap.size w w' := by
  have HB := Aside0.mk (Below.refl w.heap.size w)
  have H : (grommetref01_Put.l0 k a0 a1 1) = some r := h
  clear h
  have H' := Aside0.mk H
  clear H
  go_enter Tryd.func24, Tryd.ntmps24
  go_wp2
  go_loopg [5] k (fun kq v5 w' => ∃ (x5_1 : Int), v5 = .int .i64 x5_1 ∧ Aside0 (grommetref01_Put.l0 kq a0 a1 x5_1 = some r) ∧ Aside0 (kq ≤ k) ∧ Aside0 (Below w.heap.size w w'))
  case atStart => exact ⟨(1), (by first | rfl | (simp; done) | (simp [*]; done)), H', ⟨Nat.le_refl _⟩, ⟨by repeat (first | (with_reducible first | exact HB.out | apply below_alloc | apply pw_below_drewN | apply below_drew1) | exact HB.out)⟩⟩
  case round =>
    clear H'
    try clear c2
    try clear p2
    obtain ⟨x5_1, rfl, HA, HK1, HB⟩ := hrel
    cases gk with
    | zero => exact absurd HA.out (by simp [grommetref01_Put.l0])
    | succ k1 =>
      have H := HA.out
      clear HA
      simp only [grommetref01_Put.l0] at H
      by_cases c3 : x5_1 ≤ 10
      · rw [if_pos c3] at H
        have c3b0 : decide (x5_1 ≤ 10) = true := decide_eq_true c3
        clear c3
        have H' := Aside0.mk H
        clear H
        go_wp2
        go_loopg [6, 7, 8] k1 (fun kq v6 v7 v8 w' => ∃ (x6_2 : List Int) (x7_2 : Int) (x8_2 : Int), v7 = .int .u64 x7_2 ∧ v8 = .int .i64 x8_2 ∧ Aside0 (grommetref01_Put.l1 kq a0 a1 x5_1 x6_2 x7_2 x8_2 = some r) ∧ Aside0 (kq ≤ k1) ∧ Aside0 (Kd.R (Kd.int .u8) 5 w' w.heap.size (fun _ => True) v6 x6_2) ∧ Aside0 (Below w.heap.size w w'))
        case atStart => exact ⟨(([] : List Int)), (a0), (0), (by first | rfl | (simp; done) | (simp [*]; done)), (by first | rfl | (simp; done) | (simp [*]; done)), H', ⟨Nat.le_refl _⟩, ⟨by first | exact Kd.R_nil _ _ _ _ _ | exact Kd.N_nil _ _ _ _ _ | exact Kd.V_nil _ _ _ _ _ | exact Kd.Q_nil _ _ _ _ _ | exact Kd.S_nil _ _ _ _ _⟩, ⟨by repeat (first | (with_reducible first | exact HB.out | apply below_alloc | apply pw_below_drewN | apply below_drew1) | exact HB.out)⟩⟩
        case round =>
          clear H'
          try clear c2
          try clear p2
          try clear c3
          try clear c3b0
          try clear p2
          obtain ⟨x6_2, x7_2, x8_2, rfl, rfl, HA, HK2, HO_6, HB⟩ := hrel
          cases gk with
          | zero => exact absurd HA.out (by simp [grommetref01_Put.l1])
          | succ k2 =>
            have H := HA.out
            clear HA
            simp only [grommetref01_Put.l1] at H
            by_cases c4 : x8_2 < x5_1
            · rw [if_pos c4] at H
              have c4b0 : decide (x8_2 < x5_1) = true := decide_eq_true c4
              clear c4
              have HC5 := Aside0.mk H
              clear H
              go_upto_region 11 with (fail)
              go_cut [31] (fun v31 wc => ∃ (kq : Nat) (x31_4 : Bool), v31 = .bool x31_4 ∧ Aside0 (grommetref01_Put.j2 kq a0 a1 x5_1 x6_2 (IntKind.u64.wrap (Int.tdiv x7_2 128)) x8_2 (Int.tmod x7_2 128) x31_4 = some r) ∧ Aside0 (kq ≤ k2) ∧ Aside0 (Kd.R (Kd.int .u8) 5 wc w.heap.size (fun _ => True) u6 x6_2) ∧ Aside0 (Below w.heap.size w wc))
              case first =>
                have H := HC5.out
                clear HC5
                by_cases c6 : a1 = true
                · subst c6
                  have H1 : (grommetref01_Put.j2 k2 a0 true x5_1 x6_2 (IntKind.u64.wrap (Int.tdiv x7_2 128)) x8_2 (Int.tmod x7_2 128) (decide (a0 ≥ 9223372036854775808))) = some r := by rw [if_pos rfl] at H; exact H
                  clear H
                  have H := H1
                  clear H1
                  have H' := Aside0.mk H
                  clear H
                  go_wp2
                  go_meet
                  case rel => exact ⟨_, (decide (a0 ≥ 9223372036854775808)), (by first | rfl | (simp; done) | (simp [*]; done)), H', ⟨by have := HK1.out; have := HK2.out; first | omega | exact Nat.le_refl _⟩, ⟨by (with_reducible repeat (first | apply Kd.R_alloc | apply Kd.R_drewN | apply Kd.R_drew)); exact HO_6.out⟩, ⟨by repeat (first | (with_reducible first | exact HB.out | apply below_alloc | apply pw_below_drewN | apply below_drew1) | exact HB.out)⟩⟩
                · replace c6 := Bool.eq_false_iff.mpr c6
                  subst c6
                  have H1 : (grommetref01_Put.j2 k2 a0 false x5_1 x6_2 (IntKind.u64.wrap (Int.tdiv x7_2 128)) x8_2 (Int.tmod x7_2 128) false) = some r := by rw [if_neg (show ¬ (false = true) by decide)] at H; exact H
                  clear H
                  have H := H1
                  clear H1
                  have H' := Aside0.mk H
                  clear H
                  go_wp2
                  go_meet
                  case rel => exact ⟨_, (false), (by first | rfl | (simp; done) | (simp [*]; done)), H', ⟨by have := HK1.out; have := HK2.out; first | omega | exact Nat.le_refl _⟩, ⟨by (with_reducible repeat (first | apply Kd.R_alloc | apply Kd.R_drewN | apply Kd.R_drew)); exact HO_6.out⟩, ⟨by repeat (first | (with_reducible first | exact HB.out | apply below_alloc | apply pw_below_drewN | apply below_drew1) | exact HB.out)⟩⟩
              case rest =>
                clear HC5
                try clear c2
                try clear p2
                try clear c3
                try clear c3b0
                try clear c4
                try clear c4b0
                try clear c6
                try clear p2
                obtain ⟨kq, x31_4, rfl, HA, HJ4, HO_6, HB⟩ := hcut
                cases kq with
                | zero => exact absurd HA.out (by simp [grommetref01_Put.j2])
                | succ kj4 =>
                  have H := HA.out
                  clear HA
                  simp only [grommetref01_Put.j2] at H
                  by_cases c7 : x31_4 = true
                  · subst c7
                    have H1 : (if x8_2 < (wrap64 (x5_1 - 1)) then (if x6_2.length < 140737488355328 then (grommetref01_Put.l1 kj4 a0 a1 x5_1 (x6_2 ++ [(IntKind.u64.wrap ((Int.tmod x7_2 128) + 128)) % 256]) (IntKind.u64.wrap ((IntKind.u64.wrap (Int.tdiv x7_2 128)) + 18302628885633695744)) (wrap64 (x8_2 + 1))) else (none)) else (if x6_2.length < 140737488355328 then (grommetref01_Put.l1 kj4 a0 a1 x5_1 (x6_2 ++ [((Int.tmod x7_2 128)) % 256]) (IntKind.u64.wrap ((IntKind.u64.wrap (Int.tdiv x7_2 128)) + 18302628885633695744)) (wrap64 (x8_2 + 1))) else (none))) = some r := by rw [if_pos rfl] at H; exact H
                    clear H
                    have H := H1
                    clear H1
                    by_cases c8 : x8_2 < (wrap64 (x5_1 - 1))
                    · rw [if_pos c8] at H
                      have c8b0 : decide (x8_2 < (wrap64 (x5_1 - 1))) = true := decide_eq_true c8
                      clear c8
                      by_cases c9 : x6_2.length < 140737488355328
                      · rw [if_pos c9] at H
                        have LMc9 := Aside0.mk c9
                        clear c9
                        obtain ⟨y177, hy177⟩ : ∃ y_ : List Int, y_ = (x6_2 ++ [(IntKind.u64.wrap ((Int.tmod x7_2 128) + 128)) % 256]) := ⟨_, rfl⟩
                        replace H : (grommetref01_Put.l1 kj4 a0 a1 x5_1 y177 (IntKind.u64.wrap ((IntKind.u64.wrap (Int.tdiv x7_2 128)) + 18302628885633695744)) (wrap64 (x8_2 + 1))) = some r := by first | (rw [hy177]; with_reducible exact H) | (have H2_ := (Option.bind_some _ _).symm.trans H; rw [hy177]; with_reducible exact H2_) | (have H2_ := (Option.bind_some _ _).symm.trans H; with_reducible exact H2_) | with_reducible exact H | (rw [hy177]; exact H) | exact H
                        have Ny177 := Aside0.mk hy177
                        clear hy177
                        have H' := Aside0.mk H
                        clear H
                        go_wp2_with (first | ((with_reducible refine gate_builtin (b := .append) (xs := #[.tmp 40, .tmp 43]) rfl ?_); at_builtin; refine Kd.R_append (Kd.int .u8) (w0 := w) w.heap.size rfl (.tmp 40) (.tmp 43) 22 5 (.int .u8 0) 1 rfl Tryd.underlying22 info5 rfl (by decide) (by omega) u6 x6_2 ((IntKind.u64.wrap ((Int.tmod x7_2 128) + 128)) % 256) [.int .u8 ((IntKind.u64.wrap ((Int.tmod x7_2 128) + 128)) % 256)] (fun _ => True) (fun _ => False) rfl rfl ?aP (fun _ hk => hk.elim) ?aF ?aO ?aB ?aS ?aL ?_; (case aP => exact rfl); (case aB => exact (by repeat (first | (with_reducible first | exact HB.out | apply below_alloc | apply pw_below_drewN | apply below_drew1) | exact HB.out))); (case aF => exact (fun _ _ => trivial)); (case aO => exact (by (with_reducible repeat (first | apply Kd.R_alloc | apply Kd.R_drewN | apply Kd.R_drew)); exact HO_6.out)); (case aS => exact (below_size (by repeat (first | (with_reducible first | exact HB.out | apply below_alloc | apply pw_below_drewN | apply below_drew1) | exact HB.out)))); (case aL => have := LMc9.out; omega); intro v178 w10 ho hb hg hat; rw [← Ny177.out] at ho; have n0_ := Aside0.mk (hb); have n1_ := Aside0.mk (ho); clear HB; clear HO_6; have HB := n0_; have HO179 := n1_; clear n0_ n1_; clear ho hb hg hat))
                        go_roundg kj4
                        case measure => have := HK1.out; have := HK2.out; have := HJ4.out; omega
                        case rel => exact ⟨(y177), (IntKind.u64.wrap ((IntKind.u64.wrap (Int.tdiv x7_2 128)) + 18302628885633695744)), (wrap64 (x8_2 + 1)), (by first | rfl | (simp; done) | (simp [*]; done)), (by first | rfl | (simp; done) | (simp [*]; done)), H', ⟨by have := HK1.out; have := HK2.out; have := HJ4.out; omega⟩, ⟨by (with_reducible repeat (first | apply Kd.R_alloc | apply Kd.R_drewN | apply Kd.R_drew)); exact HO179.out⟩, ⟨by repeat (first | (with_reducible first | exact HB.out | apply below_alloc | apply pw_below_drewN | apply below_drew1) | exact HB.out)⟩⟩
                      · rw [if_neg c9] at H
                        exact absurd H (by simp)
                    · rw [if_neg c8] at H
                      have c8b0 : decide (x8_2 < (wrap64 (x5_1 - 1))) = false := decide_eq_false c8
                      clear c8
                      by_cases c11 : x6_2.length < 140737488355328
                      · rw [if_pos c11] at H
                        have LMc11 := Aside0.mk c11
                        clear c11
                        obtain ⟨y180, hy180⟩ : ∃ y_ : List Int, y_ = (x6_2 ++ [((Int.tmod x7_2 128)) % 256]) := ⟨_, rfl⟩
                        replace H : (grommetref01_Put.l1 kj4 a0 a1 x5_1 y180 (IntKind.u64.wrap ((IntKind.u64.wrap (Int.tdiv x7_2 128)) + 18302628885633695744)) (wrap64 (x8_2 + 1))) = some r := by first | (rw [hy180]; with_reducible exact H) | (have H2_ := (Option.bind_some _ _).symm.trans H; rw [hy180]; with_reducible exact H2_) | (have H2_ := (Option.bind_some _ _).symm.trans H; with_reducible exact H2_) | with_reducible exact H | (rw [hy180]; exact H) | exact H
                        have Ny180 := Aside0.mk hy180
                        clear hy180
                        have H' := Aside0.mk H
                        clear H
                        go_wp2_with (first | ((with_reducible refine gate_builtin (b := .append) (xs := #[.tmp 40, .tmp 43]) rfl ?_); at_builtin; refine Kd.R_append (Kd.int .u8) (w0 := w) w.heap.size rfl (.tmp 40) (.tmp 43) 22 5 (.int .u8 0) 1 rfl Tryd.underlying22 info5 rfl (by decide) (by omega) u6 x6_2 (((Int.tmod x7_2 128)) % 256) [.int .u8 (((Int.tmod x7_2 128)) % 256)] (fun _ => True) (fun _ => False) rfl rfl ?aP (fun _ hk => hk.elim) ?aF ?aO ?aB ?aS ?aL ?_; (case aP => exact rfl); (case aB => exact (by repeat (first | (with_reducible first | exact HB.out | apply below_alloc | apply pw_below_drewN | apply below_drew1) | exact HB.out))); (case aF => exact (fun _ _ => trivial)); (case aO => exact (by (with_reducible repeat (first | apply Kd.R_alloc | apply Kd.R_drewN | apply Kd.R_drew)); exact HO_6.out)); (case aS => exact (below_size (by repeat (first | (with_reducible first | exact HB.out | apply below_alloc | apply pw_below_drewN | apply below_drew1) | exact HB.out)))); (case aL => have := LMc11.out; omega); intro v181 w12 ho hb hg hat; rw [← Ny180.out] at ho; have n0_ := Aside0.mk (hb); have n1_ := Aside0.mk (ho); clear HB; clear HO_6; have HB := n0_; have HO182 := n1_; clear n0_ n1_; clear ho hb hg hat))
                        go_roundg kj4
                        case measure => have := HK1.out; have := HK2.out; have := HJ4.out; omega
                        case rel => exact ⟨(y180), (IntKind.u64.wrap ((IntKind.u64.wrap (Int.tdiv x7_2 128)) + 18302628885633695744)), (wrap64 (x8_2 + 1)), (by first | rfl | (simp; done) | (simp [*]; done)), (by first | rfl | (simp; done) | (simp [*]; done)), H', ⟨by have := HK1.out; have := HK2.out; have := HJ4.out; omega⟩, ⟨by (with_reducible repeat (first | apply Kd.R_alloc | apply Kd.R_drewN | apply Kd.R_drew)); exact HO182.out⟩, ⟨by repeat (first | (with_reducible first | exact HB.out | apply below_alloc | apply pw_below_drewN | apply below_drew1) | exact HB.out)⟩⟩
                      · rw [if_neg c11] at H
                        exact absurd H (by simp)
                  · replace c7 := Bool.eq_false_iff.mpr c7
                    subst c7
                    have H1 : (if x8_2 < (wrap64 (x5_1 - 1)) then (if x6_2.length < 140737488355328 then (grommetref01_Put.l1 kj4 a0 a1 x5_1 (x6_2 ++ [(IntKind.u64.wrap ((Int.tmod x7_2 128) + 128)) % 256]) (IntKind.u64.wrap (Int.tdiv x7_2 128)) (wrap64 (x8_2 + 1))) else (none)) else (if x6_2.length < 140737488355328 then (grommetref01_Put.l1 kj4 a0 a1 x5_1 (x6_2 ++ [((Int.tmod x7_2 128)) % 256]) (IntKind.u64.wrap (Int.tdiv x7_2 128)) (wrap64 (x8_2 + 1))) else (none))) = some r := by rw [if_neg (show ¬ (false = true) by decide)] at H; exact H
                    clear H
                    have H := H1
                    clear H1
                    by_cases c13 : x8_2 < (wrap64 (x5_1 - 1))
                    · rw [if_pos c13] at H
                      have c13b0 : decide (x8_2 < (wrap64 (x5_1 - 1))) = true := decide_eq_true c13
                      clear c13
                      by_cases c14 : x6_2.length < 140737488355328
                      · rw [if_pos c14] at H
                        have LMc14 := Aside0.mk c14
                        clear c14
                        obtain ⟨y183, hy183⟩ : ∃ y_ : List Int, y_ = (x6_2 ++ [(IntKind.u64.wrap ((Int.tmod x7_2 128) + 128)) % 256]) := ⟨_, rfl⟩
                        replace H : (grommetref01_Put.l1 kj4 a0 a1 x5_1 y183 (IntKind.u64.wrap (Int.tdiv x7_2 128)) (wrap64 (x8_2 + 1))) = some r := by first | (rw [hy183]; with_reducible exact H) | (have H2_ := (Option.bind_some _ _).symm.trans H; rw [hy183]; with_reducible exact H2_) | (have H2_ := (Option.bind_some _ _).symm.trans H; with_reducible exact H2_) | with_reducible exact H | (rw [hy183]; exact H) | exact H
                        have Ny183 := Aside0.mk hy183
                        clear hy183
                        have H' := Aside0.mk H
                        clear H
                        go_wp2_with (first | ((with_reducible refine gate_builtin (b := .append) (xs := #[.tmp 40, .tmp 43]) rfl ?_); at_builtin; refine Kd.R_append (Kd.int .u8) (w0 := w) w.heap.size rfl (.tmp 40) (.tmp 43) 22 5 (.int .u8 0) 1 rfl Tryd.underlying22 info5 rfl (by decide) (by omega) u6 x6_2 ((IntKind.u64.wrap ((Int.tmod x7_2 128) + 128)) % 256) [.int .u8 ((IntKind.u64.wrap ((Int.tmod x7_2 128) + 128)) % 256)] (fun _ => True) (fun _ => False) rfl rfl ?aP (fun _ hk => hk.elim) ?aF ?aO ?aB ?aS ?aL ?_; (case aP => exact rfl); (case aB => exact (by repeat (first | (with_reducible first | exact HB.out | apply below_alloc | apply pw_below_drewN | apply below_drew1) | exact HB.out))); (case aF => exact (fun _ _ => trivial)); (case aO => exact (by (with_reducible repeat (first | apply Kd.R_alloc | apply Kd.R_drewN | apply Kd.R_drew)); exact HO_6.out)); (case aS => exact (below_size (by repeat (first | (with_reducible first | exact HB.out | apply below_alloc | apply pw_below_drewN | apply below_drew1) | exact HB.out)))); (case aL => have := LMc14.out; omega); intro v184 w15 ho hb hg hat; rw [← Ny183.out] at ho; have n0_ := Aside0.mk (hb); have n1_ := Aside0.mk (ho); clear HB; clear HO_6; have HB := n0_; have HO185 := n1_; clear n0_ n1_; clear ho hb hg hat))
                        go_roundg kj4
                        case measure => have := HK1.out; have := HK2.out; have := HJ4.out; omega
                        case rel => exact ⟨(y183), ((IntKind.u64.wrap (Int.tdiv x7_2 128))), (wrap64 (x8_2 + 1)), (by first | rfl | (simp; done) | (simp [*]; done)), (by first | rfl | (simp; done) | (simp [*]; done)), H', ⟨by have := HK1.out; have := HK2.out; have := HJ4.out; omega⟩, ⟨by (with_reducible repeat (first | apply Kd.R_alloc | apply Kd.R_drewN | apply Kd.R_drew)); exact HO185.out⟩, ⟨by repeat (first | (with_reducible first | exact HB.out | apply below_alloc | apply pw_below_drewN | apply below_drew1) | exact HB.out)⟩⟩
                      · rw [if_neg c14] at H
                        exact absurd H (by simp)
                    · rw [if_neg c13] at H
                      have c13b0 : decide (x8_2 < (wrap64 (x5_1 - 1))) = false := decide_eq_false c13
                      clear c13
                      by_cases c16 : x6_2.length < 140737488355328
                      · rw [if_pos c16] at H
                        have LMc16 := Aside0.mk c16
                        clear c16
                        obtain ⟨y186, hy186⟩ : ∃ y_ : List Int, y_ = (x6_2 ++ [((Int.tmod x7_2 128)) % 256]) := ⟨_, rfl⟩
                        replace H : (grommetref01_Put.l1 kj4 a0 a1 x5_1 y186 (IntKind.u64.wrap (Int.tdiv x7_2 128)) (wrap64 (x8_2 + 1))) = some r := by first | (rw [hy186]; with_reducible exact H) | (have H2_ := (Option.bind_some _ _).symm.trans H; rw [hy186]; with_reducible exact H2_) | (have H2_ := (Option.bind_some _ _).symm.trans H; with_reducible exact H2_) | with_reducible exact H | (rw [hy186]; exact H) | exact H
                        have Ny186 := Aside0.mk hy186
                        clear hy186
                        have H' := Aside0.mk H
                        clear H
                        go_wp2_with (first | ((with_reducible refine gate_builtin (b := .append) (xs := #[.tmp 40, .tmp 43]) rfl ?_); at_builtin; refine Kd.R_append (Kd.int .u8) (w0 := w) w.heap.size rfl (.tmp 40) (.tmp 43) 22 5 (.int .u8 0) 1 rfl Tryd.underlying22 info5 rfl (by decide) (by omega) u6 x6_2 (((Int.tmod x7_2 128)) % 256) [.int .u8 (((Int.tmod x7_2 128)) % 256)] (fun _ => True) (fun _ => False) rfl rfl ?aP (fun _ hk => hk.elim) ?aF ?aO ?aB ?aS ?aL ?_; (case aP => exact rfl); (case aB => exact (by repeat (first | (with_reducible first | exact HB.out | apply below_alloc | apply pw_below_drewN | apply below_drew1) | exact HB.out))); (case aF => exact (fun _ _ => trivial)); (case aO => exact (by (with_reducible repeat (first | apply Kd.R_alloc | apply Kd.R_drewN | apply Kd.R_drew)); exact HO_6.out)); (case aS => exact (below_size (by repeat (first | (with_reducible first | exact HB.out | apply below_alloc | apply pw_below_drewN | apply below_drew1) | exact HB.out)))); (case aL => have := LMc16.out; omega); intro v187 w17 ho hb hg hat; rw [← Ny186.out] at ho; have n0_ := Aside0.mk (hb); have n1_ := Aside0.mk (ho); clear HB; clear HO_6; have HB := n0_; have HO188 := n1_; clear n0_ n1_; clear ho hb hg hat))
                        go_roundg kj4
                        case measure => have := HK1.out; have := HK2.out; have := HJ4.out; omega
                        case rel => exact ⟨(y186), ((IntKind.u64.wrap (Int.tdiv x7_2 128))), (wrap64 (x8_2 + 1)), (by first | rfl | (simp; done) | (simp [*]; done)), (by first | rfl | (simp; done) | (simp [*]; done)), H', ⟨by have := HK1.out; have := HK2.out; have := HJ4.out; omega⟩, ⟨by (with_reducible repeat (first | apply Kd.R_alloc | apply Kd.R_drewN | apply Kd.R_drew)); exact HO188.out⟩, ⟨by repeat (first | (with_reducible first | exact HB.out | apply below_alloc | apply pw_below_drewN | apply below_drew1) | exact HB.out)⟩⟩
                      · rw [if_neg c16] at H
                        exact absurd H (by simp)
            · rw [if_neg c4] at H
              have c4b0 : decide (x8_2 < x5_1) = false := decide_eq_false c4
              clear c4
              replace H := Option.bind_eq_some_iff.mp H
              obtain ⟨⟨t174, t175, t176⟩, A180, H⟩ := H
              replace H : (if t176 = true then (if t174 = a0 then (some x6_2) else (grommetref01_Put.l0 k2 a0 a1 (wrap64 (x5_1 + 1)))) else (grommetref01_Put.l0 k2 a0 a1 (wrap64 (x5_1 + 1)))) = some r := H
              have A18 := Aside0.mk A180
              clear A180
              by_cases c19 : t176 = true
              · subst c19
                have H1 : (if t174 = a0 then (some x6_2) else (grommetref01_Put.l0 k2 a0 a1 (wrap64 (x5_1 + 1)))) = some r := by rw [if_pos rfl] at H; exact H
                clear H
                have H := H1
                clear H1
                by_cases c20 : t174 = a0
                · rw [if_pos c20] at H
                  have c20b0 : (t174 == a0) = true := beq_iff_eq.mpr c20
                  have c20b1 : (t174 != a0) = false := bne_eq_false_iff_eq.mpr c20
                  clear c20
                  obtain rfl := Option.some.inj H
                  obtain ⟨Ao21, co21, eo21⟩ := Kd.R_slice HO_6.out
                  subst eo21
                  go_wp2_with (first | ((with_reducible refine gate_callee (f := 21) rfl ?_); refine goesL_ (some 48) rfl rfl Tryd.func21 (by kernel_rfl) rfl #[.slice Ao21 x6_2.length co21, .int .i64 0, .int .i64 64, .bool a1] rfl (by (try simp only [List.map_toArray, List.map_cons, List.map_nil]); first | done | rfl | (simp only [List.length_drop, List.length_take]; rfl)) ?_; (with_reducible refine (grommetref01_Read.calls k2 _ _ x6_2 0 64 a1 t174 t175 true _ ?side1 ?side2 A18.out).mono ?_); (case side1 => repeat (first | exact (Kd.R_reads' HO_6.out).2.2 | (with_reducible refine Kd.C_alloc ?_ _) | (with_reducible refine Kd.C_drewN ?_ _) | (with_reducible refine Kd.C_drew ?_))); (case side2 => exact (Kd.R_reads' HO_6.out).2.1); rintro e w22 ⟨rfl, hb⟩; refine ⟨_, rfl, ?_⟩; have n0_ := Aside0.mk (Kd.R_below (by (with_reducible repeat (first | apply Kd.R_alloc | apply Kd.R_drewN | apply Kd.R_drew)); exact HO_6.out) hb); have n1_ := Aside0.mk (below_step (by repeat (first | (with_reducible first | exact HB.out | apply below_alloc | apply pw_below_drewN | apply below_drew1) | exact HB.out)) hb); clear HO_6; clear HB; have HO_6 := n0_; have HB := n1_; clear n0_ n1_; (try clear hb); (try clear hb2); (try clear hk); (try clear hi)))
                  go_ret
                  exact ⟨_, by first | rfl | (simp [errW_none, errW_some] <;> rfl) | (simp [*, errW_none, errW_some] <;> rfl), by (with_reducible repeat (first | apply Kd.R_alloc | apply Kd.R_drewN | apply Kd.R_drew)); exact HO_6.out, by repeat (first | (with_reducible first | exact HB.out | apply below_alloc | apply pw_below_drewN | apply below_drew1) | exact HB.out)⟩
                · rw [if_neg c20] at H
                  have c20b0 : (t174 == a0) = false := beq_eq_false_iff_ne.mpr c20
                  have c20b1 : (t174 != a0) = true := bne_iff_ne.mpr c20
                  have H' := Aside0.mk H
                  clear H
                  obtain ⟨Ao23, co23, eo23⟩ := Kd.R_slice HO_6.out
                  subst eo23
                  go_wp2_with (first | ((with_reducible refine gate_callee (f := 21) rfl ?_); refine goesL_ (some 48) rfl rfl Tryd.func21 (by kernel_rfl) rfl #[.slice Ao23 x6_2.length co23, .int .i64 0, .int .i64 64, .bool a1] rfl (by (try simp only [List.map_toArray, List.map_cons, List.map_nil]); first | done | rfl | (simp only [List.length_drop, List.length_take]; rfl)) ?_; (with_reducible refine (grommetref01_Read.calls k2 _ _ x6_2 0 64 a1 t174 t175 true _ ?side1 ?side2 A18.out).mono ?_); (case side1 => repeat (first | exact (Kd.R_reads' HO_6.out).2.2 | (with_reducible refine Kd.C_alloc ?_ _) | (with_reducible refine Kd.C_drewN ?_ _) | (with_reducible refine Kd.C_drew ?_))); (case side2 => exact (Kd.R_reads' HO_6.out).2.1); rintro e w24 ⟨rfl, hb⟩; refine ⟨_, rfl, ?_⟩; have n0_ := Aside0.mk (Kd.R_below (by (with_reducible repeat (first | apply Kd.R_alloc | apply Kd.R_drewN | apply Kd.R_drew)); exact HO_6.out) hb); have n1_ := Aside0.mk (below_step (by repeat (first | (with_reducible first | exact HB.out | apply below_alloc | apply pw_below_drewN | apply below_drew1) | exact HB.out)) hb); clear HO_6; clear HB; have HO_6 := n0_; have HB := n1_; clear n0_ n1_; (try clear hb); (try clear hb2); (try clear hk); (try clear hi)))
                  go_roundg k2
                  case measure => have := HK1.out; have := HK2.out; omega
                  case rel => exact ⟨(wrap64 (x5_1 + 1)), (by first | rfl | (simp; done) | (simp [*]; done)), H', ⟨by have := HK1.out; have := HK2.out; omega⟩, ⟨by repeat (first | (with_reducible first | exact HB.out | apply below_alloc | apply pw_below_drewN | apply below_drew1) | exact HB.out)⟩⟩
              · replace c19 := Bool.eq_false_iff.mpr c19
                subst c19
                have H1 : (grommetref01_Put.l0 k2 a0 a1 (wrap64 (x5_1 + 1))) = some r := by rw [if_neg (show ¬ (false = true) by decide)] at H; exact H
                clear H
                have H := H1
                clear H1
                have H' := Aside0.mk H
                clear H
                obtain ⟨Ao25, co25, eo25⟩ := Kd.R_slice HO_6.out
                subst eo25
                go_wp2_with (first | ((with_reducible refine gate_callee (f := 21) rfl ?_); refine goesL_ (some 48) rfl rfl Tryd.func21 (by kernel_rfl) rfl #[.slice Ao25 x6_2.length co25, .int .i64 0, .int .i64 64, .bool a1] rfl (by (try simp only [List.map_toArray, List.map_cons, List.map_nil]); first | done | rfl | (simp only [List.length_drop, List.length_take]; rfl)) ?_; (with_reducible refine (grommetref01_Read.calls k2 _ _ x6_2 0 64 a1 t174 t175 false _ ?side1 ?side2 A18.out).mono ?_); (case side1 => repeat (first | exact (Kd.R_reads' HO_6.out).2.2 | (with_reducible refine Kd.C_alloc ?_ _) | (with_reducible refine Kd.C_drewN ?_ _) | (with_reducible refine Kd.C_drew ?_))); (case side2 => exact (Kd.R_reads' HO_6.out).2.1); rintro e w26 ⟨rfl, hb⟩; refine ⟨_, rfl, ?_⟩; have n0_ := Aside0.mk (Kd.R_below (by (with_reducible repeat (first | apply Kd.R_alloc | apply Kd.R_drewN | apply Kd.R_drew)); exact HO_6.out) hb); have n1_ := Aside0.mk (below_step (by repeat (first | (with_reducible first | exact HB.out | apply below_alloc | apply pw_below_drewN | apply below_drew1) | exact HB.out)) hb); clear HO_6; clear HB; have HO_6 := n0_; have HB := n1_; clear n0_ n1_; (try clear hb); (try clear hb2); (try clear hk); (try clear hi)))
                go_roundg k2
                case measure => have := HK1.out; have := HK2.out; omega
                case rel => exact ⟨(wrap64 (x5_1 + 1)), (by first | rfl | (simp; done) | (simp [*]; done)), H', ⟨by have := HK1.out; have := HK2.out; omega⟩, ⟨by repeat (first | (with_reducible first | exact HB.out | apply below_alloc | apply pw_below_drewN | apply below_drew1) | exact HB.out)⟩⟩
      · rw [if_neg c3] at H
        have c3b0 : decide (x5_1 ≤ 10) = false := decide_eq_false c3
        clear c3
        obtain rfl := Option.some.inj H
        go_wp2
        go_ret
        exact ⟨_, by first | rfl | (simp [errW_none, errW_some] <;> rfl) | (simp [*, errW_none, errW_some] <;> rfl), by first | exact Kd.R_nil _ _ _ _ _ | exact Kd.N_nil _ _ _ _ _ | exact Kd.V_nil _ _ _ _ _ | exact Kd.Q_nil _ _ _ _ _ | exact Kd.S_nil _ _ _ _ _, by repeat (first | (with_reducible first | exact HB.out | apply below_alloc | apply pw_below_drewN | apply below_drew1) | exact HB.out)⟩

/-! ### grommetref07_Join: function 15 -/
mutual
def grommetref07_Join.l0 : Nat → List (S34) → List Int → Int → Int → Option (List Int × Bool)
  | 0, _, _, _, _ => none
  | k + 1, x0, x4, x5, x6 => if x6 < (x0.length : Int) then (if 0 ≤ x6 then (if ((rd_T34 x0 x6).f0) < 0 then (grommetref07_Join.j1 k x0 x4 x5 x6 true) else (if ((rd_T34 x0 x6).f0) > 11 then (grommetref07_Join.j1 k x0 x4 x5 x6 true) else (if ((rd_T34 x0 x6).f0) = 0 then (grommetref07_Join.j1 k x0 x4 x5 x6 false) else (grommetref07_Join.j1 k x0 x4 x5 x6 (decide (((rd_T34 x0 x6).f0) ≤ x5)))))) else (none)) else (some (x4, decide ((x0.length : Int) ≤ 128)))
def grommetref07_Join.j1 : Nat → List (S34) → List Int → Int → Int → Bool → Option (List Int × Bool)
  | 0, _, _, _, _, _ => none
  | k + 1, x0, x4, x5, x6, x44 => if x44 = true then (some (([] : List Int), false)) else (if 0 ≤ x6 then (if x6 < (x0.length : Int) then (if ((rd_T34 x0 x6).f0) = 0 then (if x4.length < 140737488355328 then ((some (x4 ++ [((rd_T34 x0 x6).f0) % 256] : List Int)).bind fun y198 => ((grommetref01_Put.f k (IntKind.u64.wrap ((((rd_T34 x0 x6).f2).length : Int))) false).bind fun t202 => (if y198.length + t202.length < 140737488355328 then ((some (y198 ++ t202 : List Int)).bind fun y205 => (if y205.length + ((rd_T34 x0 x6).f2).length < 140737488355328 then (grommetref07_Join.l0 k x0 (y205 ++ ((rd_T34 x0 x6).f2)) x5 (wrap64 (x6 + 1))) else (none))) else (none)))) else (none)) else (if x4.length < 140737488355328 then ((some (x4 ++ [((rd_T34 x0 x6).f0) % 256] : List Int)).bind fun y214 => ((grommetref01_Put.f k (IntKind.u64.wrap ((((rd_T34 x0 x6).f2).length : Int))) false).bind fun t218 => (if y214.length + t218.length < 140737488355328 then ((some (y214 ++ t218 : List Int)).bind fun y221 => (if y221.length + ((rd_T34 x0 x6).f2).length < 140737488355328 then (grommetref07_Join.l0 k x0 (y221 ++ ((rd_T34 x0 x6).f2)) ((rd_T34 x0 x6).f0) (wrap64 (x6 + 1))) else (none))) else (none)))) else (none))) else (none)) else (none))
end
def grommetref07_Join.f (k : Nat) (l0 : List (S34)) : Option (List Int × Bool) := (grommetref07_Magic.f).bind fun t189 => (grommetref07_Join.l0 k l0 t189 0 0)
theorem grommetref07_Join.mono_l : ∀ k, (∀ y0 y1 y2 y3, LeO (grommetref07_Join.l0 k y0 y1 y2 y3) (grommetref07_Join.l0 (k + 1) y0 y1 y2 y3)) ∧ (∀ y0 y1 y2 y3 y4, LeO (grommetref07_Join.j1 k y0 y1 y2 y3 y4) (grommetref07_Join.j1 (k + 1) y0 y1 y2 y3 y4))
  | 0 => ⟨fun _ _ _ _ r h => by simp [grommetref07_Join.l0] at h, fun _ _ _ _ _ r h => by simp [grommetref07_Join.j1] at h⟩
  | k + 1 => by
    obtain ⟨ih0, ih1⟩ := grommetref07_Join.mono_l k
    refine ⟨?_, ?_⟩
    · intro y0 y1 y2 y3
      unfold grommetref07_Join.l0
      repeat' first
      | (with_reducible exact ih0 _ _ _ _)
      | (with_reducible exact ih1 _ _ _ _ _)
      | (with_reducible exact grommetref01_Put.mono _ _ _)
      | (with_reducible exact LeO.refl _)
      | (with_reducible exact LeO.none _)
      | (with_reducible refine LeO.ite ?_ ?_)
      | (with_reducible refine LeO.bind ?_ (fun _ => ?_))
      | exact ih0 _ _ _ _
      | exact ih1 _ _ _ _ _
      | exact grommetref01_Put.mono _ _ _
      | exact LeO.none _
      | refine LeO.ite ?_ ?_
      | refine LeO.bind ?_ (fun _ => ?_)
    · intro y0 y1 y2 y3 y4
      unfold grommetref07_Join.j1
      repeat' first
      | (with_reducible exact ih0 _ _ _ _)
      | (with_reducible exact ih1 _ _ _ _ _)
      | (with_reducible exact grommetref01_Put.mono _ _ _)
      | (with_reducible exact LeO.refl _)
      | (with_reducible exact LeO.none _)
      | (with_reducible refine LeO.ite ?_ ?_)
      | (with_reducible refine LeO.bind ?_ (fun _ => ?_))
      | exact ih0 _ _ _ _
      | exact ih1 _ _ _ _ _
      | exact grommetref01_Put.mono _ _ _
      | exact LeO.none _
      | refine LeO.ite ?_ ?_
      | refine LeO.bind ?_ (fun _ => ?_)
theorem grommetref07_Join.mono : ∀ a0 k, LeO (grommetref07_Join.f k a0) (grommetref07_Join.f (k + 1) a0) := by
  intro a0 k
  obtain ⟨ih0, ih1⟩ := grommetref07_Join.mono_l k
  unfold grommetref07_Join.f
  repeat' first
      | (with_reducible exact ih0 _ _ _ _)
      | (with_reducible exact ih1 _ _ _ _ _)
      | (with_reducible exact grommetref01_Put.mono _ _ _)
      | (with_reducible exact LeO.refl _)
      | (with_reducible exact LeO.none _)
      | (with_reducible refine LeO.ite ?_ ?_)
      | (with_reducible refine LeO.bind ?_ (fun _ => ?_))
      | exact ih0 _ _ _ _
      | exact ih1 _ _ _ _ _
      | exact grommetref01_Put.mono _ _ _
      | exact LeO.none _
      | refine LeO.ite ?_ ?_
      | refine LeO.bind ?_ (fun _ => ?_)
set_option maxHeartbeats 8000000 in
set_option maxRecDepth 100000 in
theorem grommetref07_Join.calls (k : Nat) (A0 : Option Addr) (c0 : Nat) (l0 : List (S34)) (r1 : List Int) (r2 : Bool) (w : World) (hr0 : Kd.C k34 w A0 l0.length l0) (hc0 : l0.length ≤ c0) (h : grommetref07_Join.f k l0 = some (r1, r2)) :
    Calls Tryd.prog 15 #[.slice A0 l0.length c0] w fun e w' => ∃ v0_ : Value, e = .returned (.tuple #[v0_, .bool r2]) ∧ Kd.R (Kd.int .u8) 5 w' w.heap.size (fun _ => True) v0_ r1 ∧ Below w.heap.size w w' := by
  have HR0 := Aside0.mk hr0
  have HC0 := Aside0.mk hc0
  clear hr0 hc0
  have HB := Aside0.mk (Below.refl w.heap.size w)
  have H : ((grommetref07_Magic.f).bind fun t189 => (grommetref07_Join.l0 k l0 t189 0 0)) = some (r1, r2) := h
  clear h
  replace H := Option.bind_eq_some_iff.mp H
  obtain ⟨t189, A20, H⟩ := H
  replace H : (grommetref07_Join.l0 k l0 t189 0 0) = some (r1, r2) := H
  have A2 := Aside0.mk A20
  clear A20
  have H' := Aside0.mk H
  clear H
  go_enter Tryd.func15, Tryd.ntmps15
  go_wp2_with (first | ((with_reducible refine gate_callee (f := 20) rfl ?_); refine goesL_ (some 7) rfl rfl Tryd.func20 (by kernel_rfl) rfl #[] rfl (by (try simp only [List.map_toArray, List.map_cons, List.map_nil]); first | done | rfl | (simp only [List.length_drop, List.length_take]; rfl)) ?_; (with_reducible refine (grommetref07_Magic.calls  t189 _ A2.out).mono ?_); rintro e w3 ⟨v190, rfl, ho0, hb⟩; refine ⟨_, rfl, ?_⟩; have n0_ := Aside0.mk (Kd.R_lower ho0 (below_size (by repeat (first | (with_reducible first | exact HB.out | apply below_alloc | apply pw_below_drewN | apply below_drew1) | exact HB.out)))); have n1_ := Aside0.mk (below_step (by repeat (first | (with_reducible first | exact HB.out | apply below_alloc | apply pw_below_drewN | apply below_drew1) | exact HB.out)) hb); clear HB; have HO191 := n0_; have HB := n1_; clear n0_ n1_; (try clear hb); (try clear hb2); (try clear hk); (try clear hi); (try clear ho0)))
  go_loopg [4, 5, 6] k (fun kq v4 v5 v6 w' => ∃ (x4_1 : List Int) (x5_1 : Int) (x6_1 : Int), v5 = .int .i64 x5_1 ∧ v6 = .int .i64 x6_1 ∧ Aside0 (grommetref07_Join.l0 kq l0 x4_1 x5_1 x6_1 = some (r1, r2)) ∧ Aside0 (kq ≤ k) ∧ Aside0 (Kd.R (Kd.int .u8) 5 w' w.heap.size (fun _ => True) v4 x4_1) ∧ Aside0 (Below w.heap.size w w'))
  case atStart => exact ⟨(t189), (0), (0), (by first | rfl | (simp; done) | (simp [*]; done)), (by first | rfl | (simp; done) | (simp [*]; done)), H', ⟨Nat.le_refl _⟩, ⟨by (with_reducible repeat (first | apply Kd.R_alloc | apply Kd.R_drewN | apply Kd.R_drew)); exact HO191.out⟩, ⟨by repeat (first | (with_reducible first | exact HB.out | apply below_alloc | apply pw_below_drewN | apply below_drew1) | exact HB.out)⟩⟩
  case round =>
    clear H'
    try clear c1
    try clear c2
    try clear p2
    obtain ⟨x4_1, x5_1, x6_1, rfl, rfl, HA, HK1, HO_4, HB⟩ := hrel
    cases gk with
    | zero => exact absurd HA.out (by simp [grommetref07_Join.l0])
    | succ k1 =>
      have H := HA.out
      clear HA
      simp only [grommetref07_Join.l0] at H
      by_cases c4 : x6_1 < (l0.length : Int)
      · rw [if_pos c4] at H
        have c4b0 : decide (x6_1 < (l0.length : Int)) = true := decide_eq_true c4
        clear c4
        have HC5 := Aside0.mk H
        clear H
        go_upto_region 6 with (fail)
        go_cut [44] (fun v44 wc => ∃ (kq : Nat) (x44_4 : Bool), v44 = .bool x44_4 ∧ Aside0 (grommetref07_Join.j1 kq l0 x4_1 x5_1 x6_1 x44_4 = some (r1, r2)) ∧ Aside0 (kq ≤ k1) ∧ Aside0 (Kd.R (Kd.int .u8) 5 wc w.heap.size (fun _ => True) u4 x4_1) ∧ Aside0 (Below w.heap.size w wc))
        case first =>
          have H := HC5.out
          clear HC5
          by_cases c6 : 0 ≤ x6_1
          · rw [if_pos c6] at H
            have c6b0 : decide (0 ≤ x6_1) = true := decide_eq_true c6
            clear c6
            (first | rw [c6b0] | (simp only [i64_w, i32_w]; rw [c6b0]) | skip)
            by_cases c7 : ((rd_T34 l0 x6_1).f0) < 0
            · rw [if_pos c7] at H
              have c7b0 : decide (((rd_T34 l0 x6_1).f0) < 0) = true := decide_eq_true c7
              clear c7
              have H' := Aside0.mk H
              clear H
              have p192 : 0 ≤ (x6_1 : Int) := of_decide_eq_true (by first | (with_reducible assumption) | assumption)
              have q192 : x6_1 < (l0.length : Int) := of_decide_eq_true (by first | (with_reducible assumption) | assumption)
              obtain ⟨ad192, A192_2, c192_2, e192, hx192_0, hx192_1, hx192_2, hl192_2, hi192_2⟩ := at_T34 HR0.out x6_1 p192 q192
              cases e192
              replace hx192_0 := (HB.out.cell (World.block_lt_of_cell? w _ hx192_0)).trans hx192_0
              replace hx192_1 := (HB.out.cell (World.block_lt_of_cell? w _ hx192_1)).trans hx192_1
              replace hx192_2 := (HB.out.cell (World.block_lt_of_cell? w _ hx192_2)).trans hx192_2
              have HR192_2 := Aside0.mk hi192_2
              have HC192_2 := Aside0.mk hl192_2
              clear hi192_2 hl192_2
              replace p192 := eq_true p192
              replace q192 := eq_true q192
              go_wp2
              go_meet
              case rel => exact ⟨_, (true), (by first | rfl | (simp; done) | (simp [*]; done)), H', ⟨by have := HK1.out; first | omega | exact Nat.le_refl _⟩, ⟨by (with_reducible repeat (first | apply Kd.R_alloc | apply Kd.R_drewN | apply Kd.R_drew)); exact HO_4.out⟩, ⟨by repeat (first | (with_reducible first | exact HB.out | apply below_alloc | apply pw_below_drewN | apply below_drew1) | exact HB.out)⟩⟩
            · rw [if_neg c7] at H
              have c7b0 : decide (((rd_T34 l0 x6_1).f0) < 0) = false := decide_eq_false c7
              clear c7
              by_cases c8 : ((rd_T34 l0 x6_1).f0) > 11
              · rw [if_pos c8] at H
                have c8b0 : decide (11 < ((rd_T34 l0 x6_1).f0)) = true := decide_eq_true c8
                clear c8
                have H' := Aside0.mk H
                clear H
                have p192 : 0 ≤ (x6_1 : Int) := of_decide_eq_true (by first | (with_reducible assumption) | assumption)
                have q192 : x6_1 < (l0.length : Int) := of_decide_eq_true (by first | (with_reducible assumption) | assumption)
                obtain ⟨ad192, A192_2, c192_2, e192, hx192_0, hx192_1, hx192_2, hl192_2, hi192_2⟩ := at_T34 HR0.out x6_1 p192 q192
                cases e192
                replace hx192_0 := (HB.out.cell (World.block_lt_of_cell? w _ hx192_0)).trans hx192_0
                replace hx192_1 := (HB.out.cell (World.block_lt_of_cell? w _ hx192_1)).trans hx192_1
                replace hx192_2 := (HB.out.cell (World.block_lt_of_cell? w _ hx192_2)).trans hx192_2
                have HR192_2 := Aside0.mk hi192_2
                have HC192_2 := Aside0.mk hl192_2
                clear hi192_2 hl192_2
                replace p192 := eq_true p192
                replace q192 := eq_true q192
                have p193 : 0 ≤ (x6_1 : Int) := of_decide_eq_true (by first | (with_reducible assumption) | assumption)
                have q193 : x6_1 < (l0.length : Int) := of_decide_eq_true (by first | (with_reducible assumption) | assumption)
                obtain ⟨ad193, A193_2, c193_2, e193, hx193_0, hx193_1, hx193_2, hl193_2, hi193_2⟩ := at_T34 HR0.out x6_1 p193 q193
                obtain rfl : ad192 = ad193 := (by injection e193)
                replace hx193_0 := (HB.out.cell (World.block_lt_of_cell? w _ hx193_0)).trans hx193_0
                replace hx193_1 := (HB.out.cell (World.block_lt_of_cell? w _ hx193_1)).trans hx193_1
                replace hx193_2 := (HB.out.cell (World.block_lt_of_cell? w _ hx193_2)).trans hx193_2
                have HR193_2 := Aside0.mk hi193_2
                have HC193_2 := Aside0.mk hl193_2
                clear hi193_2 hl193_2
                replace p193 := eq_true p193
                replace q193 := eq_true q193
                have ea_ := Option.some.inj (hx192_2.symm.trans hx193_2)
                injection ea_ with ea_ en_ ec_
                subst ea_
                subst ec_
                clear en_
                go_wp2
                go_meet
                case rel => exact ⟨_, (true), (by first | rfl | (simp; done) | (simp [*]; done)), H', ⟨by have := HK1.out; first | omega | exact Nat.le_refl _⟩, ⟨by (with_reducible repeat (first | apply Kd.R_alloc | apply Kd.R_drewN | apply Kd.R_drew)); exact HO_4.out⟩, ⟨by repeat (first | (with_reducible first | exact HB.out | apply below_alloc | apply pw_below_drewN | apply below_drew1) | exact HB.out)⟩⟩
              · rw [if_neg c8] at H
                have c8b0 : decide (11 < ((rd_T34 l0 x6_1).f0)) = false := decide_eq_false c8
                clear c8
                by_cases c9 : ((rd_T34 l0 x6_1).f0) = 0
                · rw [if_pos c9] at H
                  have c9b0 : (((rd_T34 l0 x6_1).f0) == 0) = true := beq_iff_eq.mpr c9
                  have c9b1 : (((rd_T34 l0 x6_1).f0) != 0) = false := bne_eq_false_iff_eq.mpr c9
                  clear c9
                  have H' := Aside0.mk H
                  clear H
                  have p192 : 0 ≤ (x6_1 : Int) := of_decide_eq_true (by first | (with_reducible assumption) | assumption)
                  have q192 : x6_1 < (l0.length : Int) := of_decide_eq_true (by first | (with_reducible assumption) | assumption)
                  obtain ⟨ad192, A192_2, c192_2, e192, hx192_0, hx192_1, hx192_2, hl192_2, hi192_2⟩ := at_T34 HR0.out x6_1 p192 q192
                  cases e192
                  replace hx192_0 := (HB.out.cell (World.block_lt_of_cell? w _ hx192_0)).trans hx192_0
                  replace hx192_1 := (HB.out.cell (World.block_lt_of_cell? w _ hx192_1)).trans hx192_1
                  replace hx192_2 := (HB.out.cell (World.block_lt_of_cell? w _ hx192_2)).trans hx192_2
                  have HR192_2 := Aside0.mk hi192_2
                  have HC192_2 := Aside0.mk hl192_2
                  clear hi192_2 hl192_2
                  replace p192 := eq_true p192
                  replace q192 := eq_true q192
                  have p193 : 0 ≤ (x6_1 : Int) := of_decide_eq_true (by first | (with_reducible assumption) | assumption)
                  have q193 : x6_1 < (l0.length : Int) := of_decide_eq_true (by first | (with_reducible assumption) | assumption)
                  obtain ⟨ad193, A193_2, c193_2, e193, hx193_0, hx193_1, hx193_2, hl193_2, hi193_2⟩ := at_T34 HR0.out x6_1 p193 q193
                  obtain rfl : ad192 = ad193 := (by injection e193)
                  replace hx193_0 := (HB.out.cell (World.block_lt_of_cell? w _ hx193_0)).trans hx193_0
                  replace hx193_1 := (HB.out.cell (World.block_lt_of_cell? w _ hx193_1)).trans hx193_1
                  replace hx193_2 := (HB.out.cell (World.block_lt_of_cell? w _ hx193_2)).trans hx193_2
                  have HR193_2 := Aside0.mk hi193_2
                  have HC193_2 := Aside0.mk hl193_2
                  clear hi193_2 hl193_2
                  replace p193 := eq_true p193
                  replace q193 := eq_true q193
                  have ea_ := Option.some.inj (hx192_2.symm.trans hx193_2)
                  injection ea_ with ea_ en_ ec_
                  subst ea_
                  subst ec_
                  clear en_
                  have p194 : 0 ≤ (x6_1 : Int) := of_decide_eq_true (by first | (with_reducible assumption) | assumption)
                  have q194 : x6_1 < (l0.length : Int) := of_decide_eq_true (by first | (with_reducible assumption) | assumption)
                  obtain ⟨ad194, A194_2, c194_2, e194, hx194_0, hx194_1, hx194_2, hl194_2, hi194_2⟩ := at_T34 HR0.out x6_1 p194 q194
                  obtain rfl : ad192 = ad194 := (by injection e194)
                  replace hx194_0 := (HB.out.cell (World.block_lt_of_cell? w _ hx194_0)).trans hx194_0
                  replace hx194_1 := (HB.out.cell (World.block_lt_of_cell? w _ hx194_1)).trans hx194_1
                  replace hx194_2 := (HB.out.cell (World.block_lt_of_cell? w _ hx194_2)).trans hx194_2
                  have HR194_2 := Aside0.mk hi194_2
                  have HC194_2 := Aside0.mk hl194_2
                  clear hi194_2 hl194_2
                  replace p194 := eq_true p194
                  replace q194 := eq_true q194
                  have ea_ := Option.some.inj (hx192_2.symm.trans hx194_2)
                  injection ea_ with ea_ en_ ec_
                  subst ea_
                  subst ec_
                  clear en_
                  go_wp2
                  go_meet
                  case rel => exact ⟨_, (false), (by first | rfl | (simp; done) | (simp [*]; done)), H', ⟨by have := HK1.out; first | omega | exact Nat.le_refl _⟩, ⟨by (with_reducible repeat (first | apply Kd.R_alloc | apply Kd.R_drewN | apply Kd.R_drew)); exact HO_4.out⟩, ⟨by repeat (first | (with_reducible first | exact HB.out | apply below_alloc | apply pw_below_drewN | apply below_drew1) | exact HB.out)⟩⟩
                · rw [if_neg c9] at H
                  have c9b0 : (((rd_T34 l0 x6_1).f0) == 0) = false := beq_eq_false_iff_ne.mpr c9
                  have c9b1 : (((rd_T34 l0 x6_1).f0) != 0) = true := bne_iff_ne.mpr c9
                  have H' := Aside0.mk H
                  clear H
                  have p192 : 0 ≤ (x6_1 : Int) := of_decide_eq_true (by first | (with_reducible assumption) | assumption)
                  have q192 : x6_1 < (l0.length : Int) := of_decide_eq_true (by first | (with_reducible assumption) | assumption)
                  obtain ⟨ad192, A192_2, c192_2, e192, hx192_0, hx192_1, hx192_2, hl192_2, hi192_2⟩ := at_T34 HR0.out x6_1 p192 q192
                  cases e192
                  replace hx192_0 := (HB.out.cell (World.block_lt_of_cell? w _ hx192_0)).trans hx192_0
                  replace hx192_1 := (HB.out.cell (World.block_lt_of_cell? w _ hx192_1)).trans hx192_1
                  replace hx192_2 := (HB.out.cell (World.block_lt_of_cell? w _ hx192_2)).trans hx192_2
                  have HR192_2 := Aside0.mk hi192_2
                  have HC192_2 := Aside0.mk hl192_2
                  clear hi192_2 hl192_2
                  replace p192 := eq_true p192
                  replace q192 := eq_true q192
                  have p193 : 0 ≤ (x6_1 : Int) := of_decide_eq_true (by first | (with_reducible assumption) | assumption)
                  have q193 : x6_1 < (l0.length : Int) := of_decide_eq_true (by first | (with_reducible assumption) | assumption)
                  obtain ⟨ad193, A193_2, c193_2, e193, hx193_0, hx193_1, hx193_2, hl193_2, hi193_2⟩ := at_T34 HR0.out x6_1 p193 q193
                  obtain rfl : ad192 = ad193 := (by injection e193)
                  replace hx193_0 := (HB.out.cell (World.block_lt_of_cell? w _ hx193_0)).trans hx193_0
                  replace hx193_1 := (HB.out.cell (World.block_lt_of_cell? w _ hx193_1)).trans hx193_1
                  replace hx193_2 := (HB.out.cell (World.block_lt_of_cell? w _ hx193_2)).trans hx193_2
                  have HR193_2 := Aside0.mk hi193_2
                  have HC193_2 := Aside0.mk hl193_2
                  clear hi193_2 hl193_2
                  replace p193 := eq_true p193
                  replace q193 := eq_true q193
                  have ea_ := Option.some.inj (hx192_2.symm.trans hx193_2)
                  injection ea_ with ea_ en_ ec_
                  subst ea_
                  subst ec_
                  clear en_
                  have p194 : 0 ≤ (x6_1 : Int) := of_decide_eq_true (by first | (with_reducible assumption) | assumption)
                  have q194 : x6_1 < (l0.length : Int) := of_decide_eq_true (by first | (with_reducible assumption) | assumption)
                  obtain ⟨ad194, A194_2, c194_2, e194, hx194_0, hx194_1, hx194_2, hl194_2, hi194_2⟩ := at_T34 HR0.out x6_1 p194 q194
                  obtain rfl : ad192 = ad194 := (by injection e194)
                  replace hx194_0 := (HB.out.cell (World.block_lt_of_cell? w _ hx194_0)).trans hx194_0
                  replace hx194_1 := (HB.out.cell (World.block_lt_of_cell? w _ hx194_1)).trans hx194_1
                  replace hx194_2 := (HB.out.cell (World.block_lt_of_cell? w _ hx194_2)).trans hx194_2
                  have HR194_2 := Aside0.mk hi194_2
                  have HC194_2 := Aside0.mk hl194_2
                  clear hi194_2 hl194_2
                  replace p194 := eq_true p194
                  replace q194 := eq_true q194
                  have ea_ := Option.some.inj (hx192_2.symm.trans hx194_2)
                  injection ea_ with ea_ en_ ec_
                  subst ea_
                  subst ec_
                  clear en_
                  have p195 : 0 ≤ (x6_1 : Int) := of_decide_eq_true (by first | (with_reducible assumption) | assumption)
                  have q195 : x6_1 < (l0.length : Int) := of_decide_eq_true (by first | (with_reducible assumption) | assumption)
                  obtain ⟨ad195, A195_2, c195_2, e195, hx195_0, hx195_1, hx195_2, hl195_2, hi195_2⟩ := at_T34 HR0.out x6_1 p195 q195
                  obtain rfl : ad192 = ad195 := (by injection e195)
                  replace hx195_0 := (HB.out.cell (World.block_lt_of_cell? w _ hx195_0)).trans hx195_0
                  replace hx195_1 := (HB.out.cell (World.block_lt_of_cell? w _ hx195_1)).trans hx195_1
                  replace hx195_2 := (HB.out.cell (World.block_lt_of_cell? w _ hx195_2)).trans hx195_2
                  have HR195_2 := Aside0.mk hi195_2
                  have HC195_2 := Aside0.mk hl195_2
                  clear hi195_2 hl195_2
                  replace p195 := eq_true p195
                  replace q195 := eq_true q195
                  have ea_ := Option.some.inj (hx192_2.symm.trans hx195_2)
                  injection ea_ with ea_ en_ ec_
                  subst ea_
                  subst ec_
                  clear en_
                  go_wp2
                  go_meet
                  case rel => exact ⟨_, (decide (((rd_T34 l0 x6_1).f0) ≤ x5_1)), (by first | rfl | (simp; done) | (simp [*]; done)), H', ⟨by have := HK1.out; first | omega | exact Nat.le_refl _⟩, ⟨by (with_reducible repeat (first | apply Kd.R_alloc | apply Kd.R_drewN | apply Kd.R_drew)); exact HO_4.out⟩, ⟨by repeat (first | (with_reducible first | exact HB.out | apply below_alloc | apply pw_below_drewN | apply below_drew1) | exact HB.out)⟩⟩
          · rw [if_neg c6] at H
            exact absurd H (by simp)
        case rest =>
          clear HC5
          try clear c1
          try clear p1
          try clear q1
          try clear hx1
          try clear c2
          try clear p2
          try clear c4
          try clear c4b0
          try clear c6
          try clear c6b0
          try clear c7
          try clear c7b0
          try clear c8
          try clear c8b0
          try clear c9
          try clear c9b0
          try clear c9b1
          try clear hx192_0
          try clear hx192_1
          try clear hx192_2
          try clear hx193_0
          try clear hx193_1
          try clear hx193_2
          try clear hx194_0
          try clear hx194_1
          try clear hx194_2
          try clear hx195_0
          try clear hx195_1
          try clear hx195_2
          try clear p192
          try clear p193
          try clear p194
          try clear p195
          try clear p2
          try clear q192
          try clear q193
          try clear q194
          try clear q195
          obtain ⟨kq, x44_4, rfl, HA, HJ4, HO_4, HB⟩ := hcut
          cases kq with
          | zero => exact absurd HA.out (by simp [grommetref07_Join.j1])
          | succ kj4 =>
            have H := HA.out
            clear HA
            simp only [grommetref07_Join.j1] at H
            by_cases c10 : x44_4 = true
            · subst c10
              have H1 : (some (([] : List Int), false)) = some (r1, r2) := by rw [if_pos rfl] at H; exact H
              clear H
              have H := H1
              clear H1
              simp only [Option.some.injEq, Prod.mk.injEq] at H
              obtain ⟨rfl, rfl⟩ := H
              go_wp2
              go_ret2
              exact ⟨_, by first | rfl | (simp [errW_none, errW_some] <;> rfl) | (simp [*, errW_none, errW_some] <;> rfl), by first | exact Kd.R_nil _ _ _ _ _ | exact Kd.N_nil _ _ _ _ _ | exact Kd.V_nil _ _ _ _ _ | exact Kd.Q_nil _ _ _ _ _ | exact Kd.S_nil _ _ _ _ _, by repeat (first | (with_reducible first | exact HB.out | apply below_alloc | apply pw_below_drewN | apply below_drew1) | exact HB.out)⟩
            · replace c10 := Bool.eq_false_iff.mpr c10
              subst c10
              have H1 : (if 0 ≤ x6_1 then (if x6_1 < (l0.length : Int) then (if ((rd_T34 l0 x6_1).f0) = 0 then (if x4_1.length < 140737488355328 then ((some (x4_1 ++ [((rd_T34 l0 x6_1).f0) % 256] : List Int)).bind fun y198 => ((grommetref01_Put.f kj4 (IntKind.u64.wrap ((((rd_T34 l0 x6_1).f2).length : Int))) false).bind fun t202 => (if y198.length + t202.length < 140737488355328 then ((some (y198 ++ t202 : List Int)).bind fun y205 => (if y205.length + ((rd_T34 l0 x6_1).f2).length < 140737488355328 then (grommetref07_Join.l0 kj4 l0 (y205 ++ ((rd_T34 l0 x6_1).f2)) x5_1 (wrap64 (x6_1 + 1))) else (none))) else (none)))) else (none)) else (if x4_1.length < 140737488355328 then ((some (x4_1 ++ [((rd_T34 l0 x6_1).f0) % 256] : List Int)).bind fun y214 => ((grommetref01_Put.f kj4 (IntKind.u64.wrap ((((rd_T34 l0 x6_1).f2).length : Int))) false).bind fun t218 => (if y214.length + t218.length < 140737488355328 then ((some (y214 ++ t218 : List Int)).bind fun y221 => (if y221.length + ((rd_T34 l0 x6_1).f2).length < 140737488355328 then (grommetref07_Join.l0 kj4 l0 (y221 ++ ((rd_T34 l0 x6_1).f2)) ((rd_T34 l0 x6_1).f0) (wrap64 (x6_1 + 1))) else (none))) else (none)))) else (none))) else (none)) else (none)) = some (r1, r2) := by rw [if_neg (show ¬ (false = true) by decide)] at H; exact H
              clear H
              have H := H1
              clear H1
              by_cases c11 : 0 ≤ x6_1
              · rw [if_pos c11] at H
                have c11b0 : decide (0 ≤ x6_1) = true := decide_eq_true c11
                clear c11
                by_cases c12 : x6_1 < (l0.length : Int)
                · rw [if_pos c12] at H
                  have c12b0 : decide (x6_1 < (l0.length : Int)) = true := decide_eq_true c12
                  clear c12
                  by_cases c13 : ((rd_T34 l0 x6_1).f0) = 0
                  · rw [if_pos c13] at H
                    have c13b0 : (((rd_T34 l0 x6_1).f0) == 0) = true := beq_iff_eq.mpr c13
                    have c13b1 : (((rd_T34 l0 x6_1).f0) != 0) = false := bne_eq_false_iff_eq.mpr c13
                    clear c13
                    by_cases c14 : x4_1.length < 140737488355328
                    · rw [if_pos c14] at H
                      have LMc14 := Aside0.mk c14
                      clear c14
                      obtain ⟨y198, hy198⟩ : ∃ y_ : List Int, y_ = (x4_1 ++ [((rd_T34 l0 x6_1).f0) % 256]) := ⟨_, rfl⟩
                      replace H : ((grommetref01_Put.f kj4 (IntKind.u64.wrap ((((rd_T34 l0 x6_1).f2).length : Int))) false).bind fun t202 => (if y198.length + t202.length < 140737488355328 then ((some (y198 ++ t202 : List Int)).bind fun y205 => (if y205.length + ((rd_T34 l0 x6_1).f2).length < 140737488355328 then (grommetref07_Join.l0 kj4 l0 (y205 ++ ((rd_T34 l0 x6_1).f2)) x5_1 (wrap64 (x6_1 + 1))) else (none))) else (none))) = some (r1, r2) := by first | (rw [hy198]; with_reducible exact H) | (have H2_ := (Option.bind_some _ _).symm.trans H; rw [hy198]; with_reducible exact H2_) | (have H2_ := (Option.bind_some _ _).symm.trans H; with_reducible exact H2_) | with_reducible exact H | (rw [hy198]; exact H) | exact H
                      have Ny198 := Aside0.mk hy198
                      clear hy198
                      replace H := Option.bind_eq_some_iff.mp H
                      obtain ⟨t202, A150, H⟩ := H
                      replace H : (if y198.length + t202.length < 140737488355328 then ((some (y198 ++ t202 : List Int)).bind fun y205 => (if y205.length + ((rd_T34 l0 x6_1).f2).length < 140737488355328 then (grommetref07_Join.l0 kj4 l0 (y205 ++ ((rd_T34 l0 x6_1).f2)) x5_1 (wrap64 (x6_1 + 1))) else (none))) else (none)) = some (r1, r2) := H
                      have A15 := Aside0.mk A150
                      clear A150
                      by_cases c16 : y198.length + t202.length < 140737488355328
                      · rw [if_pos c16] at H
                        have LMc16 := Aside0.mk c16
                        clear c16
                        obtain ⟨y205, hy205⟩ : ∃ y_ : List Int, y_ = (y198 ++ t202) := ⟨_, rfl⟩
                        replace H : (if y205.length + ((rd_T34 l0 x6_1).f2).length < 140737488355328 then (grommetref07_Join.l0 kj4 l0 (y205 ++ ((rd_T34 l0 x6_1).f2)) x5_1 (wrap64 (x6_1 + 1))) else (none)) = some (r1, r2) := by first | (rw [hy205]; with_reducible exact H) | (have H2_ := (Option.bind_some _ _).symm.trans H; rw [hy205]; with_reducible exact H2_) | (have H2_ := (Option.bind_some _ _).symm.trans H; with_reducible exact H2_) | with_reducible exact H | (rw [hy205]; exact H) | exact H
                        have Ny205 := Aside0.mk hy205
                        clear hy205
                        by_cases c17 : y205.length + ((rd_T34 l0 x6_1).f2).length < 140737488355328
                        · rw [if_pos c17] at H
                          have LMc17 := Aside0.mk c17
                          clear c17
                          obtain ⟨y209, hy209⟩ : ∃ y_ : List Int, y_ = (y205 ++ ((rd_T34 l0 x6_1).f2)) := ⟨_, rfl⟩
                          replace H : (grommetref07_Join.l0 kj4 l0 y209 x5_1 (wrap64 (x6_1 + 1))) = some (r1, r2) := by first | (rw [hy209]; with_reducible exact H) | (have H2_ := (Option.bind_some _ _).symm.trans H; rw [hy209]; with_reducible exact H2_) | (have H2_ := (Option.bind_some _ _).symm.trans H; with_reducible exact H2_) | with_reducible exact H | (rw [hy209]; exact H) | exact H
                          have Ny209 := Aside0.mk hy209
                          clear hy209
                          have H' := Aside0.mk H
                          clear H
                          have p196 : 0 ≤ (x6_1 : Int) := of_decide_eq_true (by first | (with_reducible assumption) | assumption)
                          have q196 : x6_1 < (l0.length : Int) := of_decide_eq_true (by first | (with_reducible assumption) | assumption)
                          obtain ⟨ad196, A196_2, c196_2, e196, hx196_0, hx196_1, hx196_2, hl196_2, hi196_2⟩ := at_T34 HR0.out x6_1 p196 q196
                          cases e196
                          replace hx196_0 := (HB.out.cell (World.block_lt_of_cell? w _ hx196_0)).trans hx196_0
                          replace hx196_1 := (HB.out.cell (World.block_lt_of_cell? w _ hx196_1)).trans hx196_1
                          replace hx196_2 := (HB.out.cell (World.block_lt_of_cell? w _ hx196_2)).trans hx196_2
                          have HR196_2 := Aside0.mk hi196_2
                          have HC196_2 := Aside0.mk hl196_2
                          clear hi196_2 hl196_2
                          replace p196 := eq_true p196
                          replace q196 := eq_true q196
                          have p197 : 0 ≤ (x6_1 : Int) := of_decide_eq_true (by first | (with_reducible assumption) | assumption)
                          have q197 : x6_1 < (l0.length : Int) := of_decide_eq_true (by first | (with_reducible assumption) | assumption)
                          obtain ⟨ad197, A197_2, c197_2, e197, hx197_0, hx197_1, hx197_2, hl197_2, hi197_2⟩ := at_T34 HR0.out x6_1 p197 q197
                          obtain rfl : ad196 = ad197 := (by injection e197)
                          replace hx197_0 := (HB.out.cell (World.block_lt_of_cell? w _ hx197_0)).trans hx197_0
                          replace hx197_1 := (HB.out.cell (World.block_lt_of_cell? w _ hx197_1)).trans hx197_1
                          replace hx197_2 := (HB.out.cell (World.block_lt_of_cell? w _ hx197_2)).trans hx197_2
                          have HR197_2 := Aside0.mk hi197_2
                          have HC197_2 := Aside0.mk hl197_2
                          clear hi197_2 hl197_2
                          replace p197 := eq_true p197
                          replace q197 := eq_true q197
                          have ea_ := Option.some.inj (hx196_2.symm.trans hx197_2)
                          injection ea_ with ea_ en_ ec_
                          subst ea_
                          subst ec_
                          clear en_
                          go_wp2_with (first | ((with_reducible refine gate_builtin (b := .append) (xs := #[.tmp 56, .tmp 63]) rfl ?_); at_builtin; refine Kd.R_append (Kd.int .u8) (w0 := w) w.heap.size rfl (.tmp 56) (.tmp 63) 22 5 (.int .u8 0) 1 rfl Tryd.underlying22 info5 rfl (by decide) (by omega) u4 x4_1 (((rd_T34 l0 x6_1).f0) % 256) [.int .u8 (((rd_T34 l0 x6_1).f0) % 256)] (fun _ => True) (fun _ => False) rfl rfl ?aP (fun _ hk => hk.elim) ?aF ?aO ?aB ?aS ?aL ?_; (case aP => exact rfl); (case aB => exact (by repeat (first | (with_reducible first | exact HB.out | apply below_alloc | apply pw_below_drewN | apply below_drew1) | exact HB.out))); (case aF => exact (fun _ _ => trivial)); (case aO => exact (by (with_reducible repeat (first | apply Kd.R_alloc | apply Kd.R_drewN | apply Kd.R_drew)); exact HO_4.out)); (case aS => exact (below_size (by repeat (first | (with_reducible first | exact HB.out | apply below_alloc | apply pw_below_drewN | apply below_drew1) | exact HB.out)))); (case aL => have := LMc14.out; omega); intro v199 w18 ho hb hg hat; rw [← Ny198.out] at ho; have n0_ := Aside0.mk (hb); have n1_ := Aside0.mk (ho); clear HB; clear HO_4; have HB := n0_; have HO200 := n1_; clear n0_ n1_; clear ho hb hg hat; have p201 : 0 ≤ (x6_1 : Int) := of_decide_eq_true (by first | (with_reducible assumption) | assumption); have q201 : x6_1 < (l0.length : Int) := of_decide_eq_true (by first | (with_reducible assumption) | assumption); obtain ⟨ad201, A201_2, c201_2, e201, hx201_0, hx201_1, hx201_2, hl201_2, hi201_2⟩ := at_T34 HR0.out x6_1 p201 q201; obtain rfl : ad196 = ad201 := (by injection e201); replace hx201_0 := (HB.out.cell (World.block_lt_of_cell? w _ hx201_0)).trans hx201_0; replace hx201_1 := (HB.out.cell (World.block_lt_of_cell? w _ hx201_1)).trans hx201_1; replace hx201_2 := (HB.out.cell (World.block_lt_of_cell? w _ hx201_2)).trans hx201_2; have HR201_2 := Aside0.mk hi201_2; have HC201_2 := Aside0.mk hl201_2; clear hi201_2 hl201_2; replace p201 := eq_true p201; replace q201 := eq_true q201) | ((with_reducible refine gate_callee (f := 24) rfl ?_); refine goesL_ (some 73) rfl rfl Tryd.func24 (by kernel_rfl) rfl #[.int .u64 (IntKind.u64.wrap ((((rd_T34 l0 x6_1).f2).length : Int))), .bool false] rfl (by (try simp only [List.map_toArray, List.map_cons, List.map_nil]); first | done | rfl | (simp only [List.length_drop, List.length_take]; rfl)) ?_; (with_reducible refine (grommetref01_Put.calls kj4 (IntKind.u64.wrap ((((rd_T34 l0 x6_1).f2).length : Int))) false t202 _ A15.out).mono ?_); rintro e w19 ⟨v203, rfl, ho0, hb⟩; refine ⟨_, rfl, ?_⟩; have n0_ := Aside0.mk (Kd.R_elder' (by (with_reducible repeat (first | apply Kd.R_alloc | apply Kd.R_drewN | apply Kd.R_drew)); exact HO200.out) (Kd.R_base ho0) hb); have n1_ := Aside0.mk (Kd.R_lower (Kd.R_new' ho0 (Kd.R_lt (by (with_reducible repeat (first | apply Kd.R_alloc | apply Kd.R_drewN | apply Kd.R_drew)); exact HO200.out))) (below_size (by repeat (first | (with_reducible first | exact HB.out | apply below_alloc | apply pw_below_drewN | apply below_drew1) | exact HB.out)))); have n2_ := Aside0.mk (below_step (by repeat (first | (with_reducible first | exact HB.out | apply below_alloc | apply pw_below_drewN | apply below_drew1) | exact HB.out)) hb); clear HO200; clear HB; have HO200 := n0_; have HO204 := n1_; have HB := n2_; clear n0_ n1_ n2_; (try clear hb); (try clear hb2); (try clear hk); (try clear hi); (try clear ho0); obtain ⟨Ao21, co21, eo21⟩ := Kd.R_slice HO204.out; subst eo21) | ((with_reducible refine gate_builtin (b := .append) (xs := #[.tmp 65, .tmp 73]) rfl ?_); at_builtin; refine Kd.R_append_rows (Kd.int .u8) (w0 := w) w.heap.size rfl (.tmp 65) (.tmp 73) 22 5 (.int .u8 0) 1 rfl Tryd.underlying22 info5 rfl (by decide) (by omega) v199 y198 t202 _ _ _ (fun k_ => some k_ ≠ (.slice Ao21 t202.length co21 : Value).ownBlock) (fun _ => False) rfl rfl ?aO ?aR (fun _ _ h => h) (fun _ h => h.elim) ?aF ?aB ?aS ?aL ?_; (case aR => repeat (first | exact (Kd.R_reads' HO204.out).2.2 | (with_reducible refine Kd.C_alloc ?_ _) | (with_reducible refine Kd.C_drewN ?_ _) | (with_reducible refine Kd.C_drew ?_))); (case aB => exact (by repeat (first | (with_reducible first | exact HB.out | apply below_alloc | apply pw_below_drewN | apply below_drew1) | exact HB.out))); (case aF => exact (fun k_ hk => Kd.fresh' (Kd.R_lt (by (with_reducible repeat (first | apply Kd.R_alloc | apply Kd.R_drewN | apply Kd.R_drew)); exact HO204.out)) k_ hk)); (case aO => exact (by (with_reducible repeat (first | apply Kd.R_alloc | apply Kd.R_drewN | apply Kd.R_drew)); exact Kd.R_mono HO200.out (fun _ hk => hk.2))); (case aS => exact (below_size (by repeat (first | (with_reducible first | exact HB.out | apply below_alloc | apply pw_below_drewN | apply below_drew1) | exact HB.out)))); (case aL => have := LMc16.out; omega); intro v206 w20 ho hb hg hat; rw [← Ny205.out] at ho; have n0_ := Aside0.mk (Kd.R_after (ok := (fun _ => True)) (by (with_reducible repeat (first | apply Kd.R_alloc | apply Kd.R_drewN | apply Kd.R_drew)); exact HO204.out) hg hat); have n1_ := Aside0.mk (hb); have n2_ := Aside0.mk (ho); clear HO204; clear HB; clear HO200; have HO204 := n0_; have HB := n1_; have HO207 := n2_; clear n0_ n1_ n2_; clear ho hb hg hat; have p208 : 0 ≤ (x6_1 : Int) := of_decide_eq_true (by first | (with_reducible assumption) | assumption); have q208 : x6_1 < (l0.length : Int) := of_decide_eq_true (by first | (with_reducible assumption) | assumption); obtain ⟨ad208, A208_2, c208_2, e208, hx208_0, hx208_1, hx208_2, hl208_2, hi208_2⟩ := at_T34 HR0.out x6_1 p208 q208; obtain rfl : ad196 = ad208 := (by injection e208); replace hx208_0 := (HB.out.cell (World.block_lt_of_cell? w _ hx208_0)).trans hx208_0; replace hx208_1 := (HB.out.cell (World.block_lt_of_cell? w _ hx208_1)).trans hx208_1; replace hx208_2 := (HB.out.cell (World.block_lt_of_cell? w _ hx208_2)).trans hx208_2; have HR208_2 := Aside0.mk hi208_2; have HC208_2 := Aside0.mk hl208_2; clear hi208_2 hl208_2; replace p208 := eq_true p208; replace q208 := eq_true q208) | ((with_reducible refine gate_builtin (b := .append) (xs := #[.tmp 75, .tmp 80]) rfl ?_); at_builtin; refine Kd.R_append_rows (Kd.int .u8) (w0 := w) w.heap.size rfl (.tmp 75) (.tmp 80) 22 5 (.int .u8 0) 1 rfl Tryd.underlying22 info5 rfl (by decide) (by omega) v206 y205 ((rd_T34 l0 x6_1).f2) _ _ _ (fun k_ => some k_ ≠ (.slice Ao21 t202.length co21 : Value).ownBlock) (fun _ => False) rfl rfl ?aO ?aR (fun _ _ h => h) (fun _ h => h.elim) ?aF ?aB ?aS ?aL ?_; (case aR => repeat (first | exact (Kd.C_below HR208_2.out HB.out) | (with_reducible refine Kd.C_alloc ?_ _) | (with_reducible refine Kd.C_drewN ?_ _) | (with_reducible refine Kd.C_drew ?_))); (case aB => exact (by repeat (first | (with_reducible first | exact HB.out | apply below_alloc | apply pw_below_drewN | apply below_drew1) | exact HB.out))); (case aF => exact (fun k_ hk => Kd.fresh' (Kd.R_lt (by (with_reducible repeat (first | apply Kd.R_alloc | apply Kd.R_drewN | apply Kd.R_drew)); exact HO204.out)) k_ hk)); (case aO => exact (by (with_reducible repeat (first | apply Kd.R_alloc | apply Kd.R_drewN | apply Kd.R_drew)); exact HO207.out)); (case aS => exact (below_size (by repeat (first | (with_reducible first | exact HB.out | apply below_alloc | apply pw_below_drewN | apply below_drew1) | exact HB.out)))); (case aL => have := LMc17.out; omega); intro v210 w22 ho hb hg hat; rw [← Ny209.out] at ho; have n0_ := Aside0.mk (Kd.R_after (ok := (fun _ => True)) (by (with_reducible repeat (first | apply Kd.R_alloc | apply Kd.R_drewN | apply Kd.R_drew)); exact HO204.out) hg hat); have n1_ := Aside0.mk (hb); have n2_ := Aside0.mk (ho); clear HO204; clear HB; clear HO207; have HO204 := n0_; have HB := n1_; have HO211 := n2_; clear n0_ n1_ n2_; clear ho hb hg hat))
                          go_roundg kj4
                          case measure => have := HK1.out; have := HJ4.out; omega
                          case rel => exact ⟨(y209), (x5_1), (wrap64 (x6_1 + 1)), (by first | rfl | (simp; done) | (simp [*]; done)), (by first | rfl | (simp; done) | (simp [*]; done)), H', ⟨by have := HK1.out; have := HJ4.out; omega⟩, ⟨by (with_reducible repeat (first | apply Kd.R_alloc | apply Kd.R_drewN | apply Kd.R_drew)); exact Kd.R_mono HO211.out (fun _ hk => trivial)⟩, ⟨by repeat (first | (with_reducible first | exact HB.out | apply below_alloc | apply pw_below_drewN | apply below_drew1) | exact HB.out)⟩⟩
                        · rw [if_neg c17] at H
                          exact absurd H (by simp)
                      · rw [if_neg c16] at H
                        exact absurd H (by simp)
                    · rw [if_neg c14] at H
                      exact absurd H (by simp)
                  · rw [if_neg c13] at H
                    have c13b0 : (((rd_T34 l0 x6_1).f0) == 0) = false := beq_eq_false_iff_ne.mpr c13
                    have c13b1 : (((rd_T34 l0 x6_1).f0) != 0) = true := bne_iff_ne.mpr c13
                    by_cases c23 : x4_1.length < 140737488355328
                    · rw [if_pos c23] at H
                      have LMc23 := Aside0.mk c23
                      clear c23
                      obtain ⟨y214, hy214⟩ : ∃ y_ : List Int, y_ = (x4_1 ++ [((rd_T34 l0 x6_1).f0) % 256]) := ⟨_, rfl⟩
                      replace H : ((grommetref01_Put.f kj4 (IntKind.u64.wrap ((((rd_T34 l0 x6_1).f2).length : Int))) false).bind fun t218 => (if y214.length + t218.length < 140737488355328 then ((some (y214 ++ t218 : List Int)).bind fun y221 => (if y221.length + ((rd_T34 l0 x6_1).f2).length < 140737488355328 then (grommetref07_Join.l0 kj4 l0 (y221 ++ ((rd_T34 l0 x6_1).f2)) ((rd_T34 l0 x6_1).f0) (wrap64 (x6_1 + 1))) else (none))) else (none))) = some (r1, r2) := by first | (rw [hy214]; with_reducible exact H) | (have H2_ := (Option.bind_some _ _).symm.trans H; rw [hy214]; with_reducible exact H2_) | (have H2_ := (Option.bind_some _ _).symm.trans H; with_reducible exact H2_) | with_reducible exact H | (rw [hy214]; exact H) | exact H
                      have Ny214 := Aside0.mk hy214
                      clear hy214
                      replace H := Option.bind_eq_some_iff.mp H
                      obtain ⟨t218, A240, H⟩ := H
                      replace H : (if y214.length + t218.length < 140737488355328 then ((some (y214 ++ t218 : List Int)).bind fun y221 => (if y221.length + ((rd_T34 l0 x6_1).f2).length < 140737488355328 then (grommetref07_Join.l0 kj4 l0 (y221 ++ ((rd_T34 l0 x6_1).f2)) ((rd_T34 l0 x6_1).f0) (wrap64 (x6_1 + 1))) else (none))) else (none)) = some (r1, r2) := H
                      have A24 := Aside0.mk A240
                      clear A240
                      by_cases c25 : y214.length + t218.length < 140737488355328
                      · rw [if_pos c25] at H
                        have LMc25 := Aside0.mk c25
                        clear c25
                        obtain ⟨y221, hy221⟩ : ∃ y_ : List Int, y_ = (y214 ++ t218) := ⟨_, rfl⟩
                        replace H : (if y221.length + ((rd_T34 l0 x6_1).f2).length < 140737488355328 then (grommetref07_Join.l0 kj4 l0 (y221 ++ ((rd_T34 l0 x6_1).f2)) ((rd_T34 l0 x6_1).f0) (wrap64 (x6_1 + 1))) else (none)) = some (r1, r2) := by first | (rw [hy221]; with_reducible exact H) | (have H2_ := (Option.bind_some _ _).symm.trans H; rw [hy221]; with_reducible exact H2_) | (have H2_ := (Option.bind_some _ _).symm.trans H; with_reducible exact H2_) | with_reducible exact H | (rw [hy221]; exact H) | exact H
                        have Ny221 := Aside0.mk hy221
                        clear hy221
                        by_cases c26 : y221.length + ((rd_T34 l0 x6_1).f2).length < 140737488355328
                        · rw [if_pos c26] at H
                          have LMc26 := Aside0.mk c26
                          clear c26
                          obtain ⟨y225, hy225⟩ : ∃ y_ : List Int, y_ = (y221 ++ ((rd_T34 l0 x6_1).f2)) := ⟨_, rfl⟩
                          replace H : (grommetref07_Join.l0 kj4 l0 y225 ((rd_T34 l0 x6_1).f0) (wrap64 (x6_1 + 1))) = some (r1, r2) := by first | (rw [hy225]; with_reducible exact H) | (have H2_ := (Option.bind_some _ _).symm.trans H; rw [hy225]; with_reducible exact H2_) | (have H2_ := (Option.bind_some _ _).symm.trans H; with_reducible exact H2_) | with_reducible exact H | (rw [hy225]; exact H) | exact H
                          have Ny225 := Aside0.mk hy225
                          clear hy225
                          have H' := Aside0.mk H
                          clear H
                          have p196 : 0 ≤ (x6_1 : Int) := of_decide_eq_true (by first | (with_reducible assumption) | assumption)
                          have q196 : x6_1 < (l0.length : Int) := of_decide_eq_true (by first | (with_reducible assumption) | assumption)
                          obtain ⟨ad196, A196_2, c196_2, e196, hx196_0, hx196_1, hx196_2, hl196_2, hi196_2⟩ := at_T34 HR0.out x6_1 p196 q196
                          cases e196
                          replace hx196_0 := (HB.out.cell (World.block_lt_of_cell? w _ hx196_0)).trans hx196_0
                          replace hx196_1 := (HB.out.cell (World.block_lt_of_cell? w _ hx196_1)).trans hx196_1
                          replace hx196_2 := (HB.out.cell (World.block_lt_of_cell? w _ hx196_2)).trans hx196_2
                          have HR196_2 := Aside0.mk hi196_2
                          have HC196_2 := Aside0.mk hl196_2
                          clear hi196_2 hl196_2
                          replace p196 := eq_true p196
                          replace q196 := eq_true q196
                          have p212 : 0 ≤ (x6_1 : Int) := of_decide_eq_true (by first | (with_reducible assumption) | assumption)
                          have q212 : x6_1 < (l0.length : Int) := of_decide_eq_true (by first | (with_reducible assumption) | assumption)
                          obtain ⟨ad212, A212_2, c212_2, e212, hx212_0, hx212_1, hx212_2, hl212_2, hi212_2⟩ := at_T34 HR0.out x6_1 p212 q212
                          obtain rfl : ad196 = ad212 := (by injection e212)
                          replace hx212_0 := (HB.out.cell (World.block_lt_of_cell? w _ hx212_0)).trans hx212_0
                          replace hx212_1 := (HB.out.cell (World.block_lt_of_cell? w _ hx212_1)).trans hx212_1
                          replace hx212_2 := (HB.out.cell (World.block_lt_of_cell? w _ hx212_2)).trans hx212_2
                          have HR212_2 := Aside0.mk hi212_2
                          have HC212_2 := Aside0.mk hl212_2
                          clear hi212_2 hl212_2
                          replace p212 := eq_true p212
                          replace q212 := eq_true q212
                          have ea_ := Option.some.inj (hx196_2.symm.trans hx212_2)
                          injection ea_ with ea_ en_ ec_
                          subst ea_
                          subst ec_
                          clear en_
                          have p213 : 0 ≤ (x6_1 : Int) := of_decide_eq_true (by first | (with_reducible assumption) | assumption)
                          have q213 : x6_1 < (l0.length : Int) := of_decide_eq_true (by first | (with_reducible assumption) | assumption)
                          obtain ⟨ad213, A213_2, c213_2, e213, hx213_0, hx213_1, hx213_2, hl213_2, hi213_2⟩ := at_T34 HR0.out x6_1 p213 q213
                          obtain rfl : ad196 = ad213 := (by injection e213)
                          replace hx213_0 := (HB.out.cell (World.block_lt_of_cell? w _ hx213_0)).trans hx213_0
                          replace hx213_1 := (HB.out.cell (World.block_lt_of_cell? w _ hx213_1)).trans hx213_1
                          replace hx213_2 := (HB.out.cell (World.block_lt_of_cell? w _ hx213_2)).trans hx213_2
                          have HR213_2 := Aside0.mk hi213_2
                          have HC213_2 := Aside0.mk hl213_2
                          clear hi213_2 hl213_2
                          replace p213 := eq_true p213
                          replace q213 := eq_true q213
                          have ea_ := Option.some.inj (hx196_2.symm.trans hx213_2)
                          injection ea_ with ea_ en_ ec_
                          subst ea_
                          subst ec_
                          clear en_
                          go_wp2_with (first | ((with_reducible refine gate_builtin (b := .append) (xs := #[.tmp 56, .tmp 63]) rfl ?_); at_builtin; refine Kd.R_append (Kd.int .u8) (w0 := w) w.heap.size rfl (.tmp 56) (.tmp 63) 22 5 (.int .u8 0) 1 rfl Tryd.underlying22 info5 rfl (by decide) (by omega) u4 x4_1 (((rd_T34 l0 x6_1).f0) % 256) [.int .u8 (((rd_T34 l0 x6_1).f0) % 256)] (fun _ => True) (fun _ => False) rfl rfl ?aP (fun _ hk => hk.elim) ?aF ?aO ?aB ?aS ?aL ?_; (case aP => exact rfl); (case aB => exact (by repeat (first | (with_reducible first | exact HB.out | apply below_alloc | apply pw_below_drewN | apply below_drew1) | exact HB.out))); (case aF => exact (fun _ _ => trivial)); (case aO => exact (by (with_reducible repeat (first | apply Kd.R_alloc | apply Kd.R_drewN | apply Kd.R_drew)); exact HO_4.out)); (case aS => exact (below_size (by repeat (first | (with_reducible first | exact HB.out | apply below_alloc | apply pw_below_drewN | apply below_drew1) | exact HB.out)))); (case aL => have := LMc23.out; omega); intro v215 w27 ho hb hg hat; rw [← Ny214.out] at ho; have n0_ := Aside0.mk (hb); have n1_ := Aside0.mk (ho); clear HB; clear HO_4; have HB := n0_; have HO216 := n1_; clear n0_ n1_; clear ho hb hg hat; have p217 : 0 ≤ (x6_1 : Int) := of_decide_eq_true (by first | (with_reducible assumption) | assumption); have q217 : x6_1 < (l0.length : Int) := of_decide_eq_true (by first | (with_reducible assumption) | assumption); obtain ⟨ad217, A217_2, c217_2, e217, hx217_0, hx217_1, hx217_2, hl217_2, hi217_2⟩ := at_T34 HR0.out x6_1 p217 q217; obtain rfl : ad196 = ad217 := (by injection e217); replace hx217_0 := (HB.out.cell (World.block_lt_of_cell? w _ hx217_0)).trans hx217_0; replace hx217_1 := (HB.out.cell (World.block_lt_of_cell? w _ hx217_1)).trans hx217_1; replace hx217_2 := (HB.out.cell (World.block_lt_of_cell? w _ hx217_2)).trans hx217_2; have HR217_2 := Aside0.mk hi217_2; have HC217_2 := Aside0.mk hl217_2; clear hi217_2 hl217_2; replace p217 := eq_true p217; replace q217 := eq_true q217) | ((with_reducible refine gate_callee (f := 24) rfl ?_); refine goesL_ (some 73) rfl rfl Tryd.func24 (by kernel_rfl) rfl #[.int .u64 (IntKind.u64.wrap ((((rd_T34 l0 x6_1).f2).length : Int))), .bool false] rfl (by (try simp only [List.map_toArray, List.map_cons, List.map_nil]); first | done | rfl | (simp only [List.length_drop, List.length_take]; rfl)) ?_; (with_reducible refine (grommetref01_Put.calls kj4 (IntKind.u64.wrap ((((rd_T34 l0 x6_1).f2).length : Int))) false t218 _ A24.out).mono ?_); rintro e w28 ⟨v219, rfl, ho0, hb⟩; refine ⟨_, rfl, ?_⟩; have n0_ := Aside0.mk (Kd.R_elder' (by (with_reducible repeat (first | apply Kd.R_alloc | apply Kd.R_drewN | apply Kd.R_drew)); exact HO216.out) (Kd.R_base ho0) hb); have n1_ := Aside0.mk (Kd.R_lower (Kd.R_new' ho0 (Kd.R_lt (by (with_reducible repeat (first | apply Kd.R_alloc | apply Kd.R_drewN | apply Kd.R_drew)); exact HO216.out))) (below_size (by repeat (first | (with_reducible first | exact HB.out | apply below_alloc | apply pw_below_drewN | apply below_drew1) | exact HB.out)))); have n2_ := Aside0.mk (below_step (by repeat (first | (with_reducible first | exact HB.out | apply below_alloc | apply pw_below_drewN | apply below_drew1) | exact HB.out)) hb); clear HO216; clear HB; have HO216 := n0_; have HO220 := n1_; have HB := n2_; clear n0_ n1_ n2_; (try clear hb); (try clear hb2); (try clear hk); (try clear hi); (try clear ho0); obtain ⟨Ao30, co30, eo30⟩ := Kd.R_slice HO220.out; subst eo30) | ((with_reducible refine gate_builtin (b := .append) (xs := #[.tmp 65, .tmp 73]) rfl ?_); at_builtin; refine Kd.R_append_rows (Kd.int .u8) (w0 := w) w.heap.size rfl (.tmp 65) (.tmp 73) 22 5 (.int .u8 0) 1 rfl Tryd.underlying22 info5 rfl (by decide) (by omega) v215 y214 t218 _ _ _ (fun k_ => some k_ ≠ (.slice Ao30 t218.length co30 : Value).ownBlock) (fun _ => False) rfl rfl ?aO ?aR (fun _ _ h => h) (fun _ h => h.elim) ?aF ?aB ?aS ?aL ?_; (case aR => repeat (first | exact (Kd.R_reads' HO220.out).2.2 | (with_reducible refine Kd.C_alloc ?_ _) | (with_reducible refine Kd.C_drewN ?_ _) | (with_reducible refine Kd.C_drew ?_))); (case aB => exact (by repeat (first | (with_reducible first | exact HB.out | apply below_alloc | apply pw_below_drewN | apply below_drew1) | exact HB.out))); (case aF => exact (fun k_ hk => Kd.fresh' (Kd.R_lt (by (with_reducible repeat (first | apply Kd.R_alloc | apply Kd.R_drewN | apply Kd.R_drew)); exact HO220.out)) k_ hk)); (case aO => exact (by (with_reducible repeat (first | apply Kd.R_alloc | apply Kd.R_drewN | apply Kd.R_drew)); exact Kd.R_mono HO216.out (fun _ hk => hk.2))); (case aS => exact (below_size (by repeat (first | (with_reducible first | exact HB.out | apply below_alloc | apply pw_below_drewN | apply below_drew1) | exact HB.out)))); (case aL => have := LMc25.out; omega); intro v222 w29 ho hb hg hat; rw [← Ny221.out] at ho; have n0_ := Aside0.mk (Kd.R_after (ok := (fun _ => True)) (by (with_reducible repeat (first | apply Kd.R_alloc | apply Kd.R_drewN | apply Kd.R_drew)); exact HO220.out) hg hat); have n1_ := Aside0.mk (hb); have n2_ := Aside0.mk (ho); clear HO220; clear HB; clear HO216; have HO220 := n0_; have HB := n1_; have HO223 := n2_; clear n0_ n1_ n2_; clear ho hb hg hat; have p224 : 0 ≤ (x6_1 : Int) := of_decide_eq_true (by first | (with_reducible assumption) | assumption); have q224 : x6_1 < (l0.length : Int) := of_decide_eq_true (by first | (with_reducible assumption) | assumption); obtain ⟨ad224, A224_2, c224_2, e224, hx224_0, hx224_1, hx224_2, hl224_2, hi224_2⟩ := at_T34 HR0.out x6_1 p224 q224; obtain rfl : ad196 = ad224 := (by injection e224); replace hx224_0 := (HB.out.cell (World.block_lt_of_cell? w _ hx224_0)).trans hx224_0; replace hx224_1 := (HB.out.cell (World.block_lt_of_cell? w _ hx224_1)).trans hx224_1; replace hx224_2 := (HB.out.cell (World.block_lt_of_cell? w _ hx224_2)).trans hx224_2; have HR224_2 := Aside0.mk hi224_2; have HC224_2 := Aside0.mk hl224_2; clear hi224_2 hl224_2; replace p224 := eq_true p224; replace q224 := eq_true q224) | ((with_reducible refine gate_builtin (b := .append) (xs := #[.tmp 75, .tmp 80]) rfl ?_); at_builtin; refine Kd.R_append_rows (Kd.int .u8) (w0 := w) w.heap.size rfl (.tmp 75) (.tmp 80) 22 5 (.int .u8 0) 1 rfl Tryd.underlying22 info5 rfl (by decide) (by omega) v222 y221 ((rd_T34 l0 x6_1).f2) _ _ _ (fun k_ => some k_ ≠ (.slice Ao30 t218.length co30 : Value).ownBlock) (fun _ => False) rfl rfl ?aO ?aR (fun _ _ h => h) (fun _ h => h.elim) ?aF ?aB ?aS ?aL ?_; (case aR => repeat (first | exact (Kd.C_below HR224_2.out HB.out) | (with_reducible refine Kd.C_alloc ?_ _) | (with_reducible refine Kd.C_drewN ?_ _) | (with_reducible refine Kd.C_drew ?_))); (case aB => exact (by repeat (first | (with_reducible first | exact HB.out | apply below_alloc | apply pw_below_drewN | apply below_drew1) | exact HB.out))); (case aF => exact (fun k_ hk => Kd.fresh' (Kd.R_lt (by (with_reducible repeat (first | apply Kd.R_alloc | apply Kd.R_drewN | apply Kd.R_drew)); exact HO220.out)) k_ hk)); (case aO => exact (by (with_reducible repeat (first | apply Kd.R_alloc | apply Kd.R_drewN | apply Kd.R_drew)); exact HO223.out)); (case aS => exact (below_size (by repeat (first | (with_reducible first | exact HB.out | apply below_alloc | apply pw_below_drewN | apply below_drew1) | exact HB.out)))); (case aL => have := LMc26.out; omega); intro v226 w31 ho hb hg hat; rw [← Ny225.out] at ho; have n0_ := Aside0.mk (Kd.R_after (ok := (fun _ => True)) (by (with_reducible repeat (first | apply Kd.R_alloc | apply Kd.R_drewN | apply Kd.R_drew)); exact HO220.out) hg hat); have n1_ := Aside0.mk (hb); have n2_ := Aside0.mk (ho); clear HO220; clear HB; clear HO223; have HO220 := n0_; have HB := n1_; have HO227 := n2_; clear n0_ n1_ n2_; clear ho hb hg hat))
                          go_roundg kj4
                          case measure => have := HK1.out; have := HJ4.out; omega
                          case rel => exact ⟨(y225), ((rd_T34 l0 x6_1).f0), (wrap64 (x6_1 + 1)), (by first | rfl | (simp; done) | (simp [*]; done)), (by first | rfl | (simp; done) | (simp [*]; done)), H', ⟨by have := HK1.out; have := HJ4.out; omega⟩, ⟨by (with_reducible repeat (first | apply Kd.R_alloc | apply Kd.R_drewN | apply Kd.R_drew)); exact Kd.R_mono HO227.out (fun _ hk => trivial)⟩, ⟨by repeat (first | (with_reducible first | exact HB.out | apply below_alloc | apply pw_below_drewN | apply below_drew1) | exact HB.out)⟩⟩
                        · rw [if_neg c26] at H
                          exact absurd H (by simp)
                      · rw [if_neg c25] at H
                        exact absurd H (by simp)
                    · rw [if_neg c23] at H
                      exact absurd H (by simp)
                · rw [if_neg c12] at H
                  exact absurd H (by simp)
              · rw [if_neg c11] at H
                exact absurd H (by simp)
      · rw [if_neg c4] at H
        have c4b0 : decide (x6_1 < (l0.length : Int)) = false := decide_eq_false c4
        clear c4
        simp only [Option.some.injEq, Prod.mk.injEq] at H
        obtain ⟨rfl, rfl⟩ := H
        go_wp2
        go_ret2
        exact ⟨_, by first | rfl | (simp [errW_none, errW_some] <;> rfl) | (simp [*, errW_none, errW_some] <;> rfl), by (with_reducible repeat (first | apply Kd.R_alloc | apply Kd.R_drewN | apply Kd.R_drew)); exact HO_4.out, by repeat (first | (with_reducible first | exact HB.out | apply below_alloc | apply pw_below_drewN | apply below_drew1) | exact HB.out)⟩


end Go.Proofs.YtibeoejnfpbcfaaDoor.RSectSplits
