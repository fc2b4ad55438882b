import Derived.Test.YtbelijoggbblgaaSp13
import Derived.BigQuiet
namespace Go.Proofs.Ytbelijoggbblgaa.Sp
open Go.RowKit Go.Proofs.YtbelijoggbblgaaW.PrintWords Go.Proofs.YtbelijoggbblgaaW.PrintLast Go.Proofs.YtbelijoggbblgaaW.PrintMore Go.Proofs.Ytbelijoggbblgaa.PStorePlays Go.Proofs.Ytbelijoggbblgaa.St
set_option linter.unusedVariables false
set_option linter.unusedSimpArgs false
theorem Pl.below {w w1 W0 : World} {base s m : Nat} {F : List S32} {L : List (List Int × Int)} {N : List (Nat × Int)} {G : List S41} (h : Pl w W0 base s m F L N G) (hb : Below w.heap.size w w1) : Pl w1 W0 base s m F L N G := by
  obtain ⟨tag, vF, vT, vM, vG, T, M, uF, uT, uX, uM, uG, F', T', M', hS, hM⟩ := h
  exact ⟨tag, vF, vT, vM, vG, T, M, uF, uT, uX, uM, uG, F', T', M', hS.below hb, hM.below hb⟩
theorem ODone.same {w w1 W0 : World} {base s m : Nat} {F : List S32} {L : List (List Int × Int)} {N : List (Nat × Int)} {G : List S41} (h : Pl w W0 base s m F L N G) (hb : Below w.heap.size w w1) (h0 : W0.heap.size ≤ w.heap.size) : ODone w w1 W0 base s m F L N G :=
  ⟨⟨F, L, N, G, h.below hb, by omega, by omega, by omega, by omega⟩, below_mono hb h0⟩
set_option maxHeartbeats 4000000 in
set_option maxRecDepth 100000 in
theorem one_sg_no {w W0 : World} {base s m : Nat} {F : List S32} {L : List (List Int × Int)} {N : List (Nat × Int)} {G : List S41} (h : Pl w W0 base s m F L N G) (hsm : s ≠ m) (hb : base ≤ w.heap.size) (hW : Below W0.heap.size W0 w)
    (what n1 at_ : Int) {P : Option Addr} {cp : Nat} {R : Option Addr} {cr : Nat} {np nr : Nat} (inst fn ans lo hi : Int) (has : Bool) (ty : Int) (mu : Bool) (v : Int)
    (hp : grommetlaw16_pick.f what 6 = some 5) (hn : ¬ (0 ≤ n1 ∧ n1 < G.length)) :
    Calls Try.prog 20 #[.pointer (some ⟨s, 0, none⟩), .pointer (some ⟨m, 0, none⟩), .agg (D14 what n1 at_ P np cp R nr cr inst fn ans lo hi has ty mu v)] w fun e w' => e = .returned (.bool true) ∧ ODone w w' W0 base s m F L N G := by
  have HPl := Aside0.mk h
  obtain ⟨tag, vF, vT, vM, vG, T, M, uF, uT, uX, uM, uG, F', T', M', hS, hM⟩ := h
  have CP := Aside0.mk (fun W : World => grommetlaw16_pick.calls what 6 5 W hp)
  have HS := Aside0.mk hS
  have HM := Aside0.mk hM
  have HW := Aside0.mk hW
  have HN := Aside0.mk hn
  have hb1 := fun nd => show Below w.heap.size w ((w.alloc (Obj.cells (D14 what n1 at_ P np cp R nr cr inst fn ans lo hi has ty mu v) 43)).drewN nd) from pw_below_drewN (below_alloc (Below.refl _ _) _) _
  obtain ⟨AG, cG, rfl⟩ := Kd.R_slice hM.md.g
  clear hS hM hW hp hn
  go_enter Try.func20, Try.ntmps20
  go_upto_region 16 with (go_at_call 10; (refine (CP.out _).mono ?_); rintro e w1 ⟨rfl, ⟨nd, rfl⟩⟩)
  obtain ⟨w2, hw2⟩ : ∃ w2, w2 = ((w.alloc (Obj.cells (D14 what n1 at_ P np cp R nr cr inst fn ans lo hi has ty mu v) 43)).drewN nd) := ⟨_, rfl⟩
  have hB2 := hb1 nd
  have r0 : Row w2 w.heap.size 43 (D14 what n1 at_ P np cp R nr cr inst fn ans lo hi has ty mu v) := by rw [hw2]; exact Row.drewN (Row.made w _ _ rfl) nd
  rw [← hw2] at hB2 ⊢
  clear hw2 hb1 CP
  have b1 : w2.cell? ⟨w.heap.size, 1, none⟩ = some (.int .i64 n1) := r0.cell 1
  have b2 : w2.cell? ⟨w.heap.size, 13, none⟩ = some (.int .u64 v) := r0.cell 13
  have p0 : w2.cell? ⟨m, 4, none⟩ = some (.slice AG G.length cG) := (HM.out.below hB2).md.row.cell 4
  have CG := Aside0.mk (fun n : Nat => setGlobal_no ((HS.out.below hB2).st.drewN n) n1 HN.out v)
  have HB2 := Aside0.mk hB2
  clear hB2 r0
  by_cases g0 : 0 ≤ n1
  · have d0 : decide (0 ≤ n1) = true := decide_eq_true g0
    have d1 : decide (n1 < (G.length : Int)) = false := decide_eq_false (fun h => HN.out ⟨g0, h⟩)
    go_quiet (fail)
    go_wp2_with (go_at_call 36; (refine (CG.out _).mono ?_); rintro e w3 ⟨rfl, ⟨nd3, rfl⟩⟩)
    go_ret
    exact ⟨rfl, ODone.same HPl.out (pw_below_drewN HB2.out _) HW.out.size⟩
  · have d0 : decide (0 ≤ n1) = false := decide_eq_false g0
    go_quiet (fail)
    go_wp2_with (go_at_call 36; (refine (CG.out _).mono ?_); rintro e w3 ⟨rfl, ⟨nd3, rfl⟩⟩)
    go_ret
    exact ⟨rfl, ODone.same HPl.out (pw_below_drewN HB2.out _) HW.out.size⟩
end Go.Proofs.Ytbelijoggbblgaa.Sp
