import Derived.Test.YtbelijoggbblgaaSp16
namespace Go.Proofs.Ytbelijoggbblgaa.Sp
open Go.RowKit Go.Proofs.YtbelijoggbblgaaW.PrintWords Go.Proofs.YtbelijoggbblgaaW.PrintLast Go.Proofs.YtbelijoggbblgaaW.PrintMore Go.Proofs.Ytbelijoggbblgaa.PStorePlays Go.Proofs.Ytbelijoggbblgaa.St
set_option linter.unusedVariables false
set_option linter.unusedSimpArgs false
set_option maxHeartbeats 4000000 in
set_option maxRecDepth 100000 in
theorem one_st_no {w W0 : World} {base s m : Nat} {F : List S32} {L : List (List Int × Int)} {N : List (Nat × Int)} {G : List S41} (h : Pl w W0 base s m F L N G) (hsm : s ≠ m) (hb : base ≤ w.heap.size) (hW : Below W0.heap.size W0 w)
    (what n1 at_ : Int) {P : Option Addr} {cp : Nat} {R : Option Addr} {cr : Nat} {np nr : Nat} (inst fn ans lo hi : Int) (has : Bool) (ty : Int) (mu : Bool) (v : Int)
    (hp : grommetlaw16_pick.f what 6 = some 4) (hn : ¬ (0 ≤ n1 ∧ n1 < L.length ∧ 0 ≤ at_ ∧ ∀ p, L[n1.toNat]? = some p → at_ < p.1.length)) :
    Calls Try.prog 20 #[.pointer (some ⟨s, 0, none⟩), .pointer (some ⟨m, 0, none⟩), .agg (D14 what n1 at_ P np cp R nr cr inst fn ans lo hi has ty mu v)] w fun e w' => e = .returned (.bool true) ∧ ODone w w' W0 base s m F L N G := by
  have HPl := Aside0.mk h
  obtain ⟨tag, vF, vT, vM, vG, T, M, uF, uT, uX, uM, uG, F', T', M', hS, hM⟩ := h
  have CP := Aside0.mk (fun W : World => grommetlaw16_pick.calls what 6 4 W hp)
  have HS := Aside0.mk hS
  have HM := Aside0.mk hM
  have HW := Aside0.mk hW
  have HN := Aside0.mk hn
  have hb1 := fun nd => show Below w.heap.size w ((w.alloc (Obj.cells (D14 what n1 at_ P np cp R nr cr inst fn ans lo hi has ty mu v) 43)).drewN nd) from pw_below_drewN (below_alloc (Below.refl _ _) _) _
  obtain ⟨AT, cT, rfl⟩ := Kd.R_slice hM.md.t
  clear hS hM hW hp hn
  go_enter Try.func20, Try.ntmps20
  go_upto_region 12 with (go_at_call 10; (refine (CP.out _).mono ?_); rintro e w1 ⟨rfl, ⟨nd, rfl⟩⟩)
  obtain ⟨w2, hw2⟩ : ∃ w2, w2 = ((w.alloc (Obj.cells (D14 what n1 at_ P np cp R nr cr inst fn ans lo hi has ty mu v) 43)).drewN nd) := ⟨_, rfl⟩
  have hB2 := hb1 nd
  have r0 : Row w2 w.heap.size 43 (D14 what n1 at_ P np cp R nr cr inst fn ans lo hi has ty mu v) := by rw [hw2]; exact Row.drewN (Row.made w _ _ rfl) nd
  rw [← hw2] at hB2 ⊢
  clear hw2 hb1 CP
  have b1 : w2.cell? ⟨w.heap.size, 1, none⟩ = some (.int .i64 n1) := r0.cell 1
  have b2 : w2.cell? ⟨w.heap.size, 2, none⟩ = some (.int .i64 at_) := r0.cell 2
  have b3 : w2.cell? ⟨w.heap.size, 6, none⟩ = some (.int .i64 fn) := r0.cell 6
  have p0 : w2.cell? ⟨m, 1, none⟩ = some (.slice AT T'.length cT) := (HM.out.below hB2).md.row.cell 1
  have hMt := Aside0.mk (HM.out.below hB2)
  have CG := Aside0.mk (fun n : Nat => sh_setTable_no ((HS.out.below hB2).below (pw_below_drewN (Below.refl _ w2) n)) n1 at_ fn HN.out)
  have HB2 := Aside0.mk hB2
  clear hB2 r0
  by_cases g0 : 0 ≤ n1
  · have d0 : decide (0 ≤ n1) = true := decide_eq_true g0
    by_cases g1 : n1 < L.length
    · have d1 : decide (n1 < (T'.length : Int)) = true := decide_eq_true (by rw [hMt.out.tl]; exact g1)
      by_cases g2 : 0 ≤ at_
      · have d2 : decide (0 ≤ at_) = true := decide_eq_true g2
        obtain ⟨k, rfl⟩ := Int.eq_ofNat_of_zero_le g0
        have hk : k < L.length := by omega
        obtain ⟨v1, e1, hl⟩ := hMt.out.ta k _ (List.getElem?_eq_getElem hk)
        obtain ⟨A1, c1, rfl⟩ := Kd.R_slice hl
        obtain ⟨A2, c2, e2, _, hC⟩ := Kd.R_reads hMt.out.md.t
        have e3 : AT = A2 := by injection e2
        rw [← e3] at hC
        clear e2 e3
        obtain ⟨ad, rfl, q1⟩ := raw1_at hC k (by rw [hMt.out.tl]; exact hk) _ e1
        have d3 : decide (at_ < ((L[k]).1.length : Int)) = false := decide_eq_false (fun h3 => HN.out ⟨by omega, g1, g2, fun p hp => by rw [Int.toNat_natCast, List.getElem?_eq_getElem hk] at hp; rw [← Option.some.inj hp]; exact h3⟩)
        have j0 : (0 : Int) ≤ (k : Int) := by omega
        have j1 : (k : Int) < (T'.length : Int) := by rw [hMt.out.tl]; omega
        clear hC hl e1
        go_quiet (fail)
        go_wp2_with (go_at_call 35; (refine (CG.out _).mono ?_); rintro e w3 ⟨rfl, ⟨nd3, rfl⟩⟩)
        go_ret
        exact ⟨rfl, ODone.same HPl.out (pw_below_drewN HB2.out _) HW.out.size⟩
      · have d2 : decide (0 ≤ at_) = false := decide_eq_false g2
        go_quiet (fail)
        go_wp2_with (go_at_call 35; (refine (CG.out _).mono ?_); rintro e w3 ⟨rfl, ⟨nd3, rfl⟩⟩)
        go_ret
        exact ⟨rfl, ODone.same HPl.out (pw_below_drewN HB2.out _) HW.out.size⟩
    · have d1 : decide (n1 < (T'.length : Int)) = false := decide_eq_false (by rw [hMt.out.tl]; exact g1)
      go_quiet (fail)
      go_wp2_with (go_at_call 35; (refine (CG.out _).mono ?_); rintro e w3 ⟨rfl, ⟨nd3, rfl⟩⟩)
      go_ret
      exact ⟨rfl, ODone.same HPl.out (pw_below_drewN HB2.out _) HW.out.size⟩
  · have d0 : decide (0 ≤ n1) = false := decide_eq_false g0
    go_quiet (fail)
    go_wp2_with (go_at_call 35; (refine (CG.out _).mono ?_); rintro e w3 ⟨rfl, ⟨nd3, rfl⟩⟩)
    go_ret
    exact ⟨rfl, ODone.same HPl.out (pw_below_drewN HB2.out _) HW.out.size⟩
end Go.Proofs.Ytbelijoggbblgaa.Sp
